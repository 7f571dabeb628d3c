/- hairlinelaw21.WalEpochs: the walk. -/
import Derived.Test.YtdlokmlcdlcfaaaWq2
set_option linter.unusedVariables false
set_option linter.unusedSimpArgs false
namespace Go.Proofs.Ytdlokmlcdlcfaaa
open Go.RowKit Go.MapKept Go.Shelf
theorem i64_and16 (n : Int) : bits .and .i64 n 65535 = n % 65536 := by
  have h1 : (BitVec.ofInt 64 65535).toNat = 2 ^ 16 - 1 := by decide
  have key : (BitVec.ofInt 64 n &&& BitVec.ofInt 64 65535).toNat = (n % ((2 ^ 64 : Nat) : Int)).toNat % 2 ^ 16 := by
    rw [BitVec.toNat_and, BitVec.toNat_ofInt, h1, Nat.and_two_pow_sub_one_eq_mod]
  show IntKind.i64.wrap ((BitVec.ofInt 64 n &&& BitVec.ofInt 64 65535).toNat : Nat) = n % 65536
  rw [key, IntKind.wrap_i64]
  omega
/-- Records of one epoch are no heads of another one. -/
theorem other_nh {f : Int → Sec} {en : Int} {ea eb : Nat} {l : List (List UInt8)} {a : Int} (h : JOK f en ea 0 l a) (ha : ea < 18446744073709551616) (hb : eb < 18446744073709551616) (hne : ea ≠ eb) (h0 : l = [] → f 0 = zeros) : NH (f 0) jrnl eb 0 := by
  rcases h.recs.inv with ⟨h1, -, -⟩ | ⟨b, l3, -, -, h2, -⟩
  · rw [h0 h1]
    exact zeros_nh
  · intro d hd
    unfold behindS at h2
    split at h2
    · cases h2
    · split at h2
      · rename_i h3
        rw [h3] at hd
        exact hne (head_inj ha hb hd)
      · cases h2
theorem take_snoc {l : List (List UInt8)} {k : Nat} {b : List UInt8} (h : l[k]? = some b) : l.take (k + 1) = l.take k ++ [b] := by
  rw [List.take_add_one, h]
  rfl
set_option maxRecDepth 100000 in
set_option maxHeartbeats 8000000 in
theorem epochs_calls (w : World) (v v' : Value) (l l' : List (List UInt8)) (hv : Lst w v l) (hv' : Lst w v' l') (hll : l.length ≤ 140737488351232) (hll' : l'.length ≤ 140737488351232) (hel : ∀ b ∈ l, b.length ≤ 140737488351232) (hel' : ∀ b ∈ l', b.length ≤ 140737488351232) (x y : Int) :
    Calls Try.prog 6 #[v, v', .int .i64 x, .int .i64 y] w fun e w' => e = .returned (.bool true) ∧ Below w.heap.size w w' := by
  obtain ⟨A, c, rfl⟩ := hv.form
  obtain ⟨A', c', rfl⟩ := hv'.form
  obtain ⟨ea, hea⟩ : ∃ ea : Nat, x % 65536 = (ea : Int) := ⟨(x % 65536).toNat, by omega⟩
  obtain ⟨eb, heb⟩ : ∃ eb : Nat, y % 65536 = (eb : Int) := ⟨(y % 65536).toNat, by omega⟩
  have hea2 : ea ≤ 65535 := by omega
  have heb2 : eb ≤ 65535 := by omega
  have handx : bits .and .i64 x 65535 = (ea : Int) := by rw [i64_and16, hea]
  have handy : bits .and .i64 y 65535 = (eb : Int) := by rw [i64_and16, heb]
  clear hea heb
  go_enter Try.func6, Try.ntmps6
  go_upto_if 36 with (first | (go_at_call 23; refine (wshown_calls _).mono ?_; rintro e w1 ⟨rfl, hB1⟩) | (go_at_call 10; refine (own_new w w1 hB1 200 (by omega)).mono ?_; rintro e w2 ⟨D, F0, rfl, h0, hB0, -⟩))
  go_cut [3] (fun z wx => ∃ e2 : Nat, z = .int .i64 (e2 : Int) ∧ e2 ≤ 65536 ∧ ea ≠ e2 ∧ w2 = wx)
  case first =>
    by_cases he : ea = eb
    · subst he
      have hb : ((ea : Int) == (ea : Int)) = true := by simp
      have hbi : (ea : Int) ≤ 65535 := by omega
      go_wp2_with fail
      go_meet
      exact ⟨ea + 1, rfl, by omega, by omega, rfl⟩
    · have hb : ((ea : Int) == (eb : Int)) = false := by rw [beq_eq_false_iff_ne]; omega
      go_wp2_with fail
      go_meet
      exact ⟨eb, rfl, by omega, he, rfl⟩
  case rest =>
    obtain ⟨e2, rfl, he2, hne, rfl⟩ := hcut
    clear handx handy heb2
    go_wp2_with fail
    refine (js_open h0 rfl rfl 0 200 (by decide) (by decide) (by decide) 200 (by decide) ea (by omega) [] (by decide) 0 (jok_new 200 200 ea 0)).mono ?_
    rintro e w3 ⟨J, A1, c1, xs1, rfl, hj3, hJ3, -, -, hB3⟩
    have he2' : e2 ≤ 1000000 := by omega
    go_upto_block 0 with (fail)
    go_cut [14] (fun x wx => ∃ (k : Nat) (G : Nat → Prop) (d : DS) (a : Int), x = .int .i64 (k : Int) ∧ k ≤ 10 ∧ k ≤ l.length ∧ JS w wx D J G d 200 ea 0 (l.take k) a ∧ d.n = 200 ∧ d.left = 0 ∧ (l.take k = [] → d.firm 0 = zeros) ∧ d.keep.length ≤ 0)
    case first =>
      go_wp2_with fail
      go_loopw [14] (fun x wr => ∃ (k : Nat) (G : Nat → Prop) (d : DS) (a : Int), x = .int .i64 (k : Int) ∧ k ≤ 10 ∧ k ≤ l.length ∧ JS w wr D J G d 200 ea 0 (l.take k) a ∧ d.n = 200 ∧ d.left = 0 ∧ (l.take k = [] → d.firm 0 = zeros) ∧ d.keep.length ≤ 0 ∧ a ≤ 2 * k) (fun x _ => 10 - (intOf x).toNat)
      case atStart => exact ⟨0, F0, DS.new 200, 0, rfl, by omega, by omega, hj3, rfl, rfl, fun _ => rfl, Nat.le_refl _, by omega⟩
      case round =>
        clear hj3
        obtain ⟨k, G, d, a, rfl, hk2, hkl, hj, hdn, hdl, hx0, hdk, hak⟩ := hrel
        have hk0 : (0 : Int) ≤ (k : Int) := by omega
        have hk2i : (k : Int) ≤ 10 := by omega
        by_cases hk1 : k < l.length ∧ k < 10
        · obtain ⟨b, hb⟩ : ∃ b, l[k]? = some b := ⟨_, List.getElem?_eq_getElem hk1.1⟩
          obtain ⟨g, o, z, rfl, hg, hc, hx⟩ := hv.get hb
          obtain ⟨xA, xc, hxe, -⟩ := id hx
          rw [cel_length] at hxe
          subst hxe
          have hc' : wr.cell? ⟨g, o + k, none⟩ = some (.slice xA b.length xc) := (hj.jr.own.below.cell (p := ⟨g, o + k, none⟩) hg).trans hc
          have hx' : Sl wr (.slice xA b.length xc) (cel b) := hx.over hj.jr.own.below
          have hkli : (k : Int) < (l.length : Int) := by omega
          have hk2j : (k : Int) < 10 := by omega
          have hbl : b.length ≤ 140737488351232 := hel b (List.mem_of_getElem? hb)
          have hts := take_snoc hb
          obtain ⟨m, hm⟩ : ∃ m, b.length = m := ⟨_, rfl⟩
          by_cases hl2 : m ≤ 500
          · have hl2i : ¬(500 : Int) < (m : Int) := by omega
            have hsb : secs b.length ≤ 1 := by unfold secs; omega
            have ap := js_append hj (by omega) (by decide) (by omega) (by rw [List.length_take]; omega) (by omega) _ b hx' (fun h0 q hq => ⟨old_not hj.jr.own hx (by rw [cel_length]; exact h0) q hq, fun e => by have h1 := hj.jr.ge; have h2 := hx.block_lt (by rw [cel_length]; exact h0) q hq; omega⟩) (by omega) (by omega)
            rw [hm] at hc' ap
            clear hx hx' hc
            go_wp2_with fail
            refine ap.mono ?_
            rintro e w5 (⟨rfl, G5, d5, hj5, hn5, hl5, hk5, -, -⟩ | ⟨-, h6, -⟩)
            · go_wp2_with fail
              refine ⟨⟨k + 1, G5, d5, _, rfl, by omega, by omega, by rw [hts]; exact hj5, hn5.trans hdn, hl5 hdl, fun e => by rw [hts] at e; exact absurd e (by simp), by omega, ?_⟩, by simp only [intOf]; omega⟩
              rw [hm] at hsb ⊢
              omega
            · exact absurd hdl h6
          · have hl2i : (500 : Int) < (m : Int) := by omega
            have hmi : (m : Int) ≤ 140737488351232 := by omega
            rw [hm] at hc'
            clear hm hx hx' hc hts
            go_wp2_with fail
            go_ret
            exact ⟨rfl, hj.jr.own.below⟩
        · by_cases hk3 : k < l.length
          · have hkli : (k : Int) < (l.length : Int) := by omega
            have hk2j : ¬(k : Int) < 10 := by omega
            go_wp2_with fail
            go_meet
            exact ⟨k, G, d, a, rfl, hk2, hkl, hj, hdn, hdl, hx0, hdk⟩
          · have hkli : ¬(k : Int) < (l.length : Int) := by omega
            go_wp2_with fail
            go_meet
            exact ⟨k, G, d, a, rfl, hk2, hkl, hj, hdn, hdl, hx0, hdk⟩
    case rest =>
      clear hj3
      obtain ⟨k, G, d, a, rfl, hk2, hkl, hj, hdn, hdl, hx0, hdk⟩ := hcut
      have hnh := other_nh hj.ok (by omega) (show e2 < 18446744073709551616 by omega) hne hx0
      go_wp2_with fail
      refine (js_open hj.jr.own hj.down hj.loose 0 200 (by decide) (by decide) (by rw [hdn]; decide) 200 (by decide) e2 he2' [] (by decide) 0 ⟨.nil _ _, .inr hnh⟩).mono ?_
      rintro e w4 ⟨J2, A2, c2, xs2, rfl, hj4, hJ4, -, -, hB4⟩
      go_upto_block 2 with (fail)
      go_cut [18] (fun x wx => ∃ (k : Nat) (G : Nat → Prop) (d : DS) (a : Int), x = .int .i64 (k : Int) ∧ k ≤ 10 ∧ k ≤ l'.length ∧ JS w wx D J2 G d 200 e2 0 (l'.take k) a ∧ d.n = 200 ∧ d.left = 0 ∧ True ∧ d.keep.length ≤ 0)
      case first =>
        go_wp2_with fail
        go_loopw [18] (fun x wr => ∃ (k : Nat) (G : Nat → Prop) (d : DS) (a : Int), x = .int .i64 (k : Int) ∧ k ≤ 10 ∧ k ≤ l'.length ∧ JS w wr D J2 G d 200 e2 0 (l'.take k) a ∧ d.n = 200 ∧ d.left = 0 ∧ True ∧ d.keep.length ≤ 0 ∧ a ≤ 2 * k) (fun x _ => 10 - (intOf x).toNat)
        case atStart => exact ⟨0, G, d, 0, rfl, by omega, by omega, hj4, hdn, hdl, trivial, hdk, by omega⟩
        case round =>
          clear hj4
          obtain ⟨k, G, d, a, rfl, hk2, hkl, hj, hdn, hdl, hx0, hdk, hak⟩ := hrel
          have hk0 : (0 : Int) ≤ (k : Int) := by omega
          have hk2i : (k : Int) ≤ 10 := by omega
          by_cases hk1 : k < l'.length ∧ k < 10
          · obtain ⟨b, hb⟩ : ∃ b, l'[k]? = some b := ⟨_, List.getElem?_eq_getElem hk1.1⟩
            obtain ⟨g, o, z, rfl, hg, hc, hx⟩ := hv'.get hb
            obtain ⟨xA, xc, hxe, -⟩ := id hx
            rw [cel_length] at hxe
            subst hxe
            have hc' : wr.cell? ⟨g, o + k, none⟩ = some (.slice xA b.length xc) := (hj.jr.own.below.cell (p := ⟨g, o + k, none⟩) hg).trans hc
            have hx' : Sl wr (.slice xA b.length xc) (cel b) := hx.over hj.jr.own.below
            have hkli : (k : Int) < (l'.length : Int) := by omega
            have hk2j : (k : Int) < 10 := by omega
            have hbl : b.length ≤ 140737488351232 := hel' b (List.mem_of_getElem? hb)
            have hts := take_snoc hb
            obtain ⟨m, hm⟩ : ∃ m, b.length = m := ⟨_, rfl⟩
            by_cases hl2 : m ≤ 500
            · have hl2i : ¬(500 : Int) < (m : Int) := by omega
              have hsb : secs b.length ≤ 1 := by unfold secs; omega
              have ap := js_append hj (by omega) (by decide) (by omega) (by rw [List.length_take]; omega) (by omega) _ b hx' (fun h0 q hq => ⟨old_not hj.jr.own hx (by rw [cel_length]; exact h0) q hq, fun e => by have h1 := hj.jr.ge; have h2 := hx.block_lt (by rw [cel_length]; exact h0) q hq; omega⟩) (by omega) (by omega)
              rw [hm] at hc' ap
              clear hx hx' hc
              go_wp2_with fail
              refine ap.mono ?_
              rintro e w5 (⟨rfl, G5, d5, hj5, hn5, hl5, hk5, -, -⟩ | ⟨-, h6, -⟩)
              · go_wp2_with fail
                refine ⟨⟨k + 1, G5, d5, _, rfl, by omega, by omega, by rw [hts]; exact hj5, hn5.trans hdn, hl5 hdl, trivial, by omega, ?_⟩, by simp only [intOf]; omega⟩
                rw [hm] at hsb ⊢
                omega
              · exact absurd hdl h6
            · have hl2i : (500 : Int) < (m : Int) := by omega
              have hmi : (m : Int) ≤ 140737488351232 := by omega
              rw [hm] at hc'
              clear hm hx hx' hc hts
              go_wp2_with fail
              go_ret
              exact ⟨rfl, hj.jr.own.below⟩
          · by_cases hk3 : k < l'.length
            · have hkli : (k : Int) < (l'.length : Int) := by omega
              have hk2j : ¬(k : Int) < 10 := by omega
              go_wp2_with fail
              go_meet
              exact ⟨k, G, d, a, rfl, hk2, hkl, hj, hdn, hdl, hx0, hdk⟩
            · have hkli : ¬(k : Int) < (l'.length : Int) := by omega
              go_wp2_with fail
              go_meet
              exact ⟨k, G, d, a, rfl, hk2, hkl, hj, hdn, hdl, hx0, hdk⟩
      case rest =>
        obtain ⟨k, G, d, a, rfl, hk2, hkl, hj, hdn, hdl, -, -⟩ := hcut
        have hlen : (l'.take k).length = k := by rw [List.length_take]; omega
        go_wp2_with fail
        refine (js_open hj.jr.own hj.down hj.loose 0 200 (by decide) (by decide) (by rw [hdn]; decide) 200 (by decide) e2 he2' (l'.take k) (by omega) a hj.ok).mono ?_
        rintro e w5 ⟨J5, A5, c5, xs5, rfl, hj5, -, -, -, -⟩
        rw [hlen]
        go_wp2_with fail
        go_ret
        exact ⟨rfl, hj5.jr.own.below⟩
end Go.Proofs.Ytdlokmlcdlcfaaa

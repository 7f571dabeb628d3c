/- wal: Load. -/
import Derived.Test.YtdlokmlcdlcfaaaWb8
set_option linter.unusedVariables false
set_option linter.unusedSimpArgs false
namespace Go.Proofs.Ytdlokmlcdlcfaaa
open Go.RowKit Go.MapKept Go.Shelf
def genOf (f : Int → Sec) (a : Int) : Nat := le (((f a).drop 4).take 8)
def loadStep (f : Int → Sec) (fr ea : Int) (k : Nat) (p : Nat × List UInt8) : Nat × List UInt8 :=
  if genOf f (fr + ea * k) < 1 ∨ 4611686018427387904 < genOf f (fr + ea * k) ∨ genOf f (fr + ea * k) % 2 ≠ k ∨ genOf f (fr + ea * k) ≤ p.1 then p else
    match behindS f (fr + ea * k) slot4 (genOf f (fr + ea * k)) 0 (512 * (ea - 1)).toNat with
    | some b => (genOf f (fr + ea * k), b)
    | none => p
def loadK (f : Int → Sec) (fr ea : Int) : Nat → Nat × List UInt8
  | 0 => (0, [])
  | k + 1 => loadStep f fr ea k (loadK f fr ea k)
theorem le_lt8 {l : List UInt8} (h : l.length = 512) (n : Nat) (hn : n ≤ 500) : le ((l.drop n).take 8) < 18446744073709551616 := by
  have h1 := le_lt ((l.drop n).take 8)
  have h2 : ((l.drop n).take 8).length = 8 := by rw [List.length_take, List.length_drop, h]; omega
  rw [h2] at h1
  omega
theorem loadK_lt {f : Int → Sec} (fr ea : Int) : ∀ k, (loadK f fr ea k).1 ≤ 4611686018427387904
  | 0 => Nat.zero_le _
  | k + 1 => by
    have := loadK_lt (f := f) fr ea k
    rw [loadK, loadStep]
    split
    · exact this
    · split
      · show genOf f (fr + ea * k) ≤ _; omega
      · exact this
set_option maxRecDepth 100000 in
set_option maxHeartbeats 4000000 in
theorem load_calls {w0 w : World} {D : Nat} {F : Nat → Prop} {d : DS} (h : Own w0 w D F d) (hf : d.loose.length ≤ 700000) (hd : d.down = false) (fr ea : Int) (hfr : 0 ≤ fr) (hea : 1 ≤ ea) (hn : fr + 2 * ea ≤ d.n) (hea2 : ea ≤ 1000) :
    Calls Try.prog 28 #[.pointer (some ⟨D, 0, none⟩), .int .i64 fr, .int .i64 ea] w fun e w' => ∃ v, e = .returned (.tuple #[.int .i64 ((loadK d.look fr ea 2).1 : Int), v, .int .i64 0]) ∧ Sl w' v (cel (loadK d.look fr ea 2).2) ∧ Below w.heap.size w w' := by
  have hdn := h.disk.ok.n
  go_enter Try.func28, Try.ntmps28
  go_wp2_with (first
    | (go_at_call 47; (refine (lie_calls h.disk fr ea hfr hea hn).mono ?_); rintro e w1 ⟨rfl, hw1⟩; subst hw1)
    | (go_at_call 20; (refine (down_calls h.disk).mono ?_); rintro e w2 ⟨rfl, hw2⟩; rw [hd]; subst hw2))
  go_loopw [9, 10, 27] (fun b v i wr => ∃ k : Nat, k ≤ 2 ∧ i = .int .i64 (k : Int) ∧ b = .int .i64 ((loadK d.look fr ea k).1 : Int) ∧ Sl wr v (cel (loadK d.look fr ea k).2) ∧ Below w2.heap.size w2 wr) (fun _ _ i _ => 2 - (intOf i).toNat)
  case atStart => exact ⟨0, Nat.zero_le _, rfl, rfl, Sl.nil _, Below.refl _ _⟩
  case round =>
    obtain ⟨k, hk, rfl, rfl, hsl, hB⟩ := hrel
    have hO := h.over hB
    have hfl := hO.look_len
    have hbl := loadK_lt (f := d.look) fr ea k
    by_cases hk2 : k < 2
    · have hk3 : k = 0 ∨ k = 1 := by omega
      have hki : (k : Int) < 2 := by omega
      have hk0 : (0 : Int) ≤ (k : Int) := by omega
      have hK : loadK d.look fr ea (k + 1) = loadStep d.look fr ea k (loadK d.look fr ea k) := rfl
      obtain ⟨p, hp⟩ : ∃ p, loadK d.look fr ea k = p := ⟨_, rfl⟩
      rw [hp] at hK hsl hbl ⊢
      obtain ⟨q, hq⟩ : ∃ q, loadK d.look fr ea (k + 1) = q := ⟨_, rfl⟩
      have hnext : ∀ v wr', Sl wr' v (cel q.2) → Below w2.heap.size w2 wr' → ∃ k' : Nat, k' ≤ 2 ∧ Value.int .i64 ((k : Int) + 1) = .int .i64 (k' : Int) ∧ Value.int .i64 (q.1 : Int) = .int .i64 ((loadK d.look fr ea k').1 : Int) ∧ Sl wr' v (cel (loadK d.look fr ea k').2) ∧ Below w2.heap.size w2 wr' := fun v wr' h1 h2 =>
        ⟨k + 1, by omega, rfl, by rw [hq], by rw [hq]; exact h1, h2⟩
      rw [hq] at hK
      unfold loadStep at hK
      obtain ⟨y, hy⟩ : ∃ y : Int, ea * (k : Int) = y := ⟨_, rfl⟩
      have hy2 : 0 ≤ y ∧ y ≤ ea := by rcases hk3 with rfl | rfl <;> omega
      rw [hy] at hK
      have e1 : IntKind.i64.wrap (ea * (k : Int)) = y := by rw [hy]; exact IntWalk.i64_in _ (by omega)
      have e1w : wrap64 (ea * (k : Int)) = y := by rw [hy]; unfold wrap64; omega
      obtain ⟨a, haa⟩ : ∃ a, fr + y = a := ⟨_, rfl⟩
      have e2 : IntKind.i64.wrap (fr + y) = a := by rw [haa]; exact IntWalk.i64_in _ (by omega)
      have e2w : wrap64 (fr + y) = a := by rw [haa]; unfold wrap64; omega
      rw [haa] at hK
      have ha : 0 ≤ a ∧ a + ea ≤ d.n := by omega
      clear hy haa
      obtain ⟨g, hg⟩ : ∃ g, genOf d.look a = g := ⟨_, rfl⟩
      have hg64 : g < 18446744073709551616 := by rw [← hg]; exact le_lt8 (hfl a) 4 (by decide)
      rw [hg] at hK
      have HK := hideK hK
      clear hK hq hp
      have hrd := read_ok hO.disk (by omega) a (at_ok hd (by omega))
      go_wp2_with fail
      refine hrd.mono ?_
      rintro e w3 ⟨v3, rfl, hv3, -, hvb, hB3⟩
      clear hrd
      obtain ⟨b0, o0, c, rfl, hc⟩ := hv3.some_form (by rw [cel_length, hfl]; decide)
      rw [cel_length, hfl] at hc hv3 ⊢
      have hc5 : (512 : Int) ≤ (c : Int) := by omega
      have hr4 := hv3.rest_some 4 (by rw [cel_length, hfl]; omega)
      have e4 : (cel (d.look a)).drop 4 = cel ((d.look a).drop 4) := by unfold cel; rw [List.map_drop]
      rw [e4] at hr4
      have hr8 := read8_calls w3 _ _ hr4 (by rw [List.length_drop, hfl]; omega)
      rw [show le (((d.look a).drop 4).take 8) = g from hg] at hr8
      have hO3 := hO.over hB3
      have hBB := hB.trans (hB3.mono hB.size)
      have hsl3 := hsl.over hB3
      clear e4 hr4 hv3
      go_wp2_with fail
      refine hr8.mono ?_
      rintro e w4 ⟨rfl, hw4⟩
      subst hw4
      clear hr8
      have hg0 : (0 : Int) ≤ (g : Int) := by omega
      have hgU : (g : Int) < 18446744073709551616 := by omega
      have hand : bits .and .u64 (g : Int) 1 = (g : Int) % 2 := u64_and1 _ ⟨hg0, hgU⟩
      obtain ⟨x, hx⟩ : ∃ x : Int, (g : Int) % 2 = x := ⟨_, rfl⟩
      have hx2 : 0 ≤ x ∧ x ≤ 1 := by omega
      rw [hx] at hand
      have e6 : IntKind.i64.wrap x = x := IntWalk.i64_in _ (by omega)
      by_cases h1 : g < 1
      · have h1i : (g : Int) < 1 := by omega
        have hqp : q = p := by rw [HK.out, if_pos (.inl h1)]
        have hnx := hnext _ _ (by rw [hqp]; exact hsl3) hBB
        rw [hqp] at hnx
        clear hqp HK hnext hx h1
        go_wp2_with fail
        exact ⟨hnx, by simp only [intOf]; omega⟩
      · have h1i : ¬(g : Int) < 1 := by omega
        by_cases h2 : 4611686018427387904 < g
        · have h2i : (4611686018427387904 : Int) < (g : Int) := by omega
          have hqp : q = p := by rw [HK.out, if_pos (.inr (.inl h2))]
          have hnx := hnext _ _ (by rw [hqp]; exact hsl3) hBB
          rw [hqp] at hnx
          clear hqp HK hnext hx h1 h2
          go_wp2_with fail
          exact ⟨hnx, by simp only [intOf]; omega⟩
        · have h2i : ¬(4611686018427387904 : Int) < (g : Int) := by omega
          have e5 : IntKind.i64.wrap (g : Int) = (g : Int) := IntWalk.i64_in _ (by omega)
          by_cases h3 : g % 2 ≠ k
          · have h3i : (x != (k : Int)) = true := by
              rw [bne_iff_ne]
              omega
            have hqp : q = p := by rw [HK.out, if_pos (.inr (.inr (.inl h3)))]
            have hnx := hnext _ _ (by rw [hqp]; exact hsl3) hBB
            rw [hqp] at hnx
            clear hqp HK hnext hx h1 h2 h3
            go_wp2_with fail
            exact ⟨hnx, by simp only [intOf]; omega⟩
          · have h3i : (x != (k : Int)) = false := by
              rw [bne_eq_false_iff_eq]
              omega
            by_cases h4 : g ≤ p.1
            · have h4i : (g : Int) ≤ (p.1 : Int) := by omega
              have hqp : q = p := by rw [HK.out, if_pos (.inr (.inr (.inr h4)))]
              have hnx := hnext _ _ (by rw [hqp]; exact hsl3) hBB
              rw [hqp] at hnx
              clear hqp HK hnext hx h1 h2 h3 h4
              go_wp2_with fail
              exact ⟨hnx, by simp only [intOf]; omega⟩
            · have h4i : ¬(g : Int) ≤ (p.1 : Int) := by omega
              have h1d : decide ((g : Int) < 1) = false := decide_eq_false h1i
              have h2d : decide ((4611686018427387904 : Int) < (g : Int)) = false := decide_eq_false h2i
              have h4d : decide ((g : Int) ≤ (p.1 : Int)) = false := decide_eq_false h4i
              have h4n : decide (g ≤ p.1) = false := decide_eq_false h4
              clear h1i h2i h4i
              have hkk : q = match behindS d.look a slot4 g 0 (512 * (ea - 1)).toNat with | some b => (g, b) | none => p := by rw [HK.out, if_neg (fun h => h.elim h1 fun h => h.elim h2 fun h => h.elim h3 h4)]
              clear HK
              obtain ⟨u1, hu1⟩ : ∃ u1, ea - 1 = u1 := ⟨_, rfl⟩
              obtain ⟨u2, hu2⟩ : ∃ u2, 512 * u1 = u2 := ⟨_, rfl⟩
              have e7 : IntKind.i64.wrap (ea - 1) = u1 := by rw [hu1]; exact IntWalk.i64_in _ (by omega)
              have e8 : IntKind.i64.wrap (512 * u1) = u2 := by rw [hu2]; exact IntWalk.i64_in _ (by omega)
              rw [hu1, hu2] at hkk
              have hsm : (secs u2.toNat : Int) ≤ u1 := by unfold secs; omega
              have hbd := behind_calls hO3 (by omega) hd a slot4 (by decide) g 0 u2.toNat (by omega) (by omega) (by omega) ⟨ha.1, by omega⟩
              rw [show bstr slot4 = ⟨#[83, 76, 79, 84]⟩ from rfl, show (((0 : Nat)) : Int) = 0 from rfl, Int.toNat_of_nonneg (by omega)] at hbd
              obtain ⟨r, hr⟩ : ∃ r, behindS d.look a slot4 g 0 u2.toNat = r := ⟨_, rfl⟩
              rw [hr] at hkk hbd
              clear hr hu1 hu2
              have hA : r = none → q = p := fun e => by rw [hkk, e]
              have hB' : ∀ b, r = some b → q = (g, b) := fun b e => by rw [hkk, e]
              clear hkk hx h1 h2 h3 h4
              go_wp2_with fail
              refine hbd.mono ?_
              rintro e w5 ⟨hB5, v5, rfl, ⟨A5, m5, c5, rfl⟩, hg5⟩
              have hB55 := hBB.trans (hB5.mono hBB.size)
              cases r with
              | none =>
                have hqp : q = p := hA rfl
                have hnx := hnext _ _ (by rw [hqp]; exact hsl3.over hB5) hB55
                rw [hqp] at hnx
                clear hqp hA hB' hnext
                go_wp2_with fail
                exact ⟨hnx, by simp only [intOf]; omega⟩
              | some b =>
                have hqp : q = (g, b) := hB' b rfl
                obtain ⟨g1, -, -, -⟩ := hg5 b rfl
                have hnx := hnext _ _ (by rw [hqp]; exact g1) hB55
                rw [hqp] at hnx
                clear hqp hA hB' hnext
                go_wp2_with fail
                exact ⟨hnx, by simp only [intOf]; omega⟩
    · obtain rfl : k = 2 := by omega
      have hki : ¬(2 : Int) < 2 := by omega
      go_wp2_with fail
      refine bodyPost_ret (res3 (t := 6) (u := 7) (v := 8) (by kernel_rfl) rfl rfl rfl) rfl ?_
      exact ⟨_, rfl, hsl, hB⟩
end Go.Proofs.Ytdlokmlcdlcfaaa

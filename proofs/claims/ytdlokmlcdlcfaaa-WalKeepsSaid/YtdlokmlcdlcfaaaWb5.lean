/- wal: behind. -/
import Derived.Test.YtdlokmlcdlcfaaaWb4
set_option linter.unusedVariables false
set_option linter.unusedSimpArgs false
namespace Go.Proofs.Ytdlokmlcdlcfaaa
open Go.RowKit Go.MapKept
/-- How long what is behind a head is. -/
def hnum (f : Int → Sec) (a : Int) : Nat := le (((f a).drop 20).take 8)
def hdata (f : Int → Sec) (a : Int) : List UInt8 := (run f (a + 1) (secs (hnum f a))).take (hnum f a)
def behindS (f : Int → Sec) (a : Int) (s : List UInt8) (x y : Nat) (most : Nat) : Option (List UInt8) :=
  if most < hnum f a then none else if (f a).take 36 = headS s x y (hdata f a) then some (hdata f a) else none
theorem Own.look_len {w0 w : World} {D : Nat} {F : Nat → Prop} {d : DS} (h : Own w0 w D F d) (i : Int) : (d.look i).length = 512 := by
  unfold DS.look
  rcases DS.put_mem d.firm d.loose i with e | e
  · rw [e]; exact h.disk.ok.firm i
  · exact (h.disk.ok.loose _ e).1
theorem hdata_len {f : Int → Sec} (hf : ∀ i, (f i).length = 512) (a : Int) : (hdata f a).length = hnum f a := by
  unfold hdata
  rw [List.length_take, run_len hf]
  unfold secs
  omega
theorem at_ok {d : DS} (hd : d.down = false) {i : Int} (hi : 0 ≤ i ∧ i < d.n) : d.at_ i = 0 := by
  unfold DS.at_
  rw [if_neg (by rw [hd]; simp), if_neg (by omega)]
theorem secs_mono {m n : Nat} (h : m ≤ n) : secs m ≤ secs n := by unfold secs; omega
/-- What a call of behind tells. -/
def Told (w : World) (r : Option (List UInt8)) (e : Ending) (w' : World) : Prop :=
  Below w.heap.size w w' ∧ ∃ v, e = .returned (.tuple #[v, .bool r.isSome]) ∧ (∃ A m c, v = .slice A m c) ∧ ∀ l, r = some l → Got w w' l v
theorem Sl.some_form {w : World} {v : Value} {us : List Value} (h : Sl w v us) (h0 : 0 < us.length) : ∃ b o c, v = .slice (some ⟨b, o, none⟩) us.length c ∧ us.length ≤ c := by
  obtain ⟨A, c, rfl, h1, -, -, h4⟩ := h
  obtain ⟨b, o, rfl, -, -⟩ := h4 h0
  exact ⟨b, o, c, rfl, h1⟩
theorem Sl.rest_some {w : World} {b o m c : Nat} {us : List Value} (h : Sl w (.slice (some ⟨b, o, none⟩) m c) us) (n : Nat) (hn : n < us.length) : Sl w (.slice (some ⟨b, o + n, none⟩) (m - n) (c - n)) (us.drop n) := by
  have h1 := h.rest n (Nat.le_of_lt hn)
  have hc : ¬c = n := by
    obtain ⟨A', c', e, h2, -⟩ := h
    injection e with e1 e2 e3
    omega
  unfold sliced at h1
  rw [if_neg hc] at h1
  have e : (Option.map (fun x : Addr => x.add (n * 1)) (some ⟨b, o, none⟩)) = some ⟨b, o + n, none⟩ := by
    show some (Addr.add _ _) = _
    rw [Nat.mul_one, Addr.add_lit]
  rw [e] at h1
  exact h1
set_option maxRecDepth 100000 in
set_option maxHeartbeats 4000000 in
theorem behind_calls {w0 w : World} {D : Nat} {F : Nat → Prop} {d : DS} (h : Own w0 w D F d) (hf : d.loose.length ≤ 900000) (hd : d.down = false) (a : Int) (s : List UInt8) (hs : s.length ≤ 1000) (x y most : Nat) (hx : x < 9223372036854775808) (hy : y < 9223372036854775808) (hm : most ≤ 1000000) (ha : 0 ≤ a ∧ a + 1 + secs most ≤ d.n) :
    Calls Try.prog 41 #[.pointer (some ⟨D, 0, none⟩), .int .i64 a, .string (bstr s), .int .i64 (x : Int), .int .i64 (y : Int), .int .i64 (most : Int)] w (Told w (behindS d.look a s x y most)) := by
  have hfl := h.look_len
  have hdn := h.disk.ok.n
  have hrd := read_ok h.disk (by omega) a (at_ok hd (by omega))
  unfold behindS
  obtain ⟨n, hn⟩ : ∃ n, hnum d.look a = n := ⟨_, rfl⟩
  have hln := le_lt (((d.look a).drop 20).take 8)
  have hl8 : (((d.look a).drop 20).take 8).length = 8 := by rw [List.length_take, List.length_drop, hfl]; rfl
  rw [hl8, show le (((d.look a).drop 20).take 8) = n from hn] at hln
  have hn64 : n < 18446744073709551616 := by omega
  have hdl := hdata_len hfl a
  have hdd : hdata d.look a = (run d.look (a + 1) (secs n)).take n := by unfold hdata; rw [hn]
  rw [hn] at hdl ⊢
  obtain ⟨data, hdt⟩ : ∃ data, hdata d.look a = data := ⟨_, rfl⟩
  rw [hdt] at hdl hdd ⊢
  obtain ⟨r, hr⟩ : ∃ r, (if most < n then none else if (d.look a).take 36 = headS s x y data then some data else none) = r := ⟨_, rfl⟩
  rw [hr]
  have HR := hideK hr
  clear hr
  go_enter Try.func41, Try.ntmps41
  go_wp2_with fail
  refine hrd.mono ?_
  rintro e w1 ⟨v, rfl, hv, -, hvb, hB1⟩
  clear hrd
  obtain ⟨b0, o0, c, rfl, hc⟩ := hv.some_form (by rw [cel_length, hfl]; decide)
  rw [cel_length, hfl] at hc hv hvb ⊢
  have hc5 : (512 : Int) ≤ (c : Int) := by omega
  have hr20 := hv.rest_some 20 (by rw [cel_length, hfl]; omega)
  have e20 : (cel (d.look a)).drop 20 = cel ((d.look a).drop 20) := by unfold cel; rw [List.map_drop]
  rw [e20] at hr20
  have hr8 := read8_calls w1 _ _ hr20 (by rw [List.length_drop, hfl]; omega)
  rw [show le (((d.look a).drop 20).take 8) = n from hn] at hr8
  have hO1 := h.over hB1
  have hmi : (most : Int) < 9223372036854775808 := by omega
  clear e20 hl8 hr20
  go_wp2_with fail
  refine hr8.mono ?_
  rintro e w2 ⟨rfl, rfl⟩
  clear hr8
  have hn0 : (0 : Int) ≤ (n : Int) := by omega
  have hnU : (n : Int) < 18446744073709551616 := by omega
  by_cases hmn : most < n
  · have hmni : (most : Int) < (n : Int) := by omega
    have hrn : r = none := by rw [← HR.out, if_pos hmn]
    clear HR
    subst hrn
    go_wp2_with fail
    refine bodyPost_ret (res2 (t := 12) (u := 13) (by kernel_rfl) rfl rfl) rfl ?_
    exact ⟨hB1, _, rfl, ⟨_, _, _, rfl⟩, fun l h => (by cases h)⟩
  · have hmni : ¬(most : Int) < (n : Int) := by omega
    have hget := get_calls hO1 hf hd (a + 1) n (by omega) ⟨by omega, by have := secs_mono (show n ≤ most by omega); omega⟩
    rw [← hdd] at hget
    have hn9 : (n : Int) < 9223372036854775808 := by omega
    go_wp2_with fail
    refine hget.mono ?_
    rintro e w3 ⟨v', rfl, hg1, ⟨A3, c3, rfl⟩, hg3, hB3⟩
    rw [hdl]
    rw [hdl] at hg1 hg3
    have h36 := (hv.of hB3.size fun h0 b hb => hB3.block b (hvb b hb).2.1).first 36 (by rw [cel_length, hfl]; omega)
    have e36 : (cel (d.look a)).take 36 = cel ((d.look a).take 36) := by unfold cel; rw [List.map_take]
    rw [e36] at h36
    have hrr : r = if (d.look a).take 36 = headS s x y data then some data else none := by rw [← HR.out, if_neg hmn]
    have hhd := head_calls w3.drew s hs x y hx hy _ data (show Sl w3.drew _ _ from hg1) (by omega)
    have hblk : ∀ W, Below w3.drew.heap.size w3.drew W → Sl W (.slice (some ⟨b0, o0, none⟩) 36 c) (cel ((d.look a).take 36)) := fun W h => h36.of h.size fun h0 q hq => by
      obtain ⟨A', c', e, -, -, -, hat⟩ := h36
      injection e with e1 e2 e3
      obtain ⟨b', o', e4, hlt, -⟩ := hat h0
      rw [← e1] at e4
      cases e4
      obtain rfl : b0 = q := by simpa [Value.ownBlock] using hq
      exact h.block b0 hlt
    have HRR := hideK hrr
    clear HR hdd hrr hnU e36 hmn
    have hc36 : (36 : Int) ≤ (c : Int) := by omega
    go_wp2_with fail
    go_region_held3 (fun w' => True) (trivial)
      (first
        | (go_at_call 46; (refine hhd.mono ?_); rintro e w4 ⟨hv4, rfl, hm4, hB4, hO4⟩
           have hE := equal_calls w4 _ _ _ _ (hblk w4 hB4) hm4.sl)
        | (go_at_call 53; (refine hE.mono ?_); rintro e w5 ⟨rfl, rfl⟩))
    go_wp2_with fail
    have hrs : r.isSome = decide ((d.look a).take 36 = headS s x y data) := by
      rw [HRR.out]
      by_cases h : (d.look a).take 36 = headS s x y data
      · rw [if_pos h]; simp [h]
      · rw [if_neg h]; simp [h]
    have hrl : ∀ l, r = some l → data = l := fun l hl => by
      rw [HRR.out] at hl
      split at hl
      · injection hl
      · cases hl
    refine bodyPost_ret (res2 (t := 12) (u := 13) (by kernel_rfl) rfl rfl) rfl ?_
    have hs3 := hB3.size
    have hs1 := hB1.size
    have hBB := (hB1.trans ((hB3.drew.trans (hB4.mono hs3)).mono hs1))
    refine ⟨hBB, _, by rw [hrs]; rfl, ⟨_, _, _, rfl⟩, fun l hl => ?_⟩
    obtain rfl := hrl l hl
    have hg3' : ∀ b, (Value.slice A3 n c3).ownBlock = some b → w.heap.size ≤ b ∧ b < w5.heap.size := fun b hb => ⟨Nat.le_trans hs1 (hg3 b hb).1, Nat.lt_of_lt_of_le (hg3 b hb).2 hB4.size⟩
    exact ⟨hg1.of hB4.size fun h0 b hb => hB4.block b (hg3 b hb).2, ⟨A3, c3, by rw [hdl]⟩, hg3', hBB⟩
end Go.Proofs.Ytdlokmlcdlcfaaa

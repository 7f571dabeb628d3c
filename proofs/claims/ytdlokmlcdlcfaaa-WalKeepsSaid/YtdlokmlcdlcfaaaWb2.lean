/- wal: get, head, bytes.Equal. -/
import Derived.Test.YtdlokmlcdlcfaaaWb1
set_option linter.unusedVariables false
set_option linter.unusedSimpArgs false
namespace Go.Proofs.Ytdlokmlcdlcfaaa
open Go.RowKit Go.MapKept
/-- So many sectors' bytes. -/
def run (f : Int → Sec) (a : Int) : Nat → List UInt8
  | 0 => []
  | k + 1 => run f a k ++ f (a + k)
theorem run_len {f : Int → Sec} (hf : ∀ i, (f i).length = 512) (a : Int) : ∀ k, (run f a k).length = 512 * k
  | 0 => rfl
  | k + 1 => by rw [run, List.length_append, run_len hf a k, hf]; omega
/-- A slice of one's own, or of none. -/
def Got (w w' : World) (l : List UInt8) (v : Value) : Prop := Sl w' v (cel l) ∧ (∃ A c, v = .slice A l.length c) ∧ (∀ b, v.ownBlock = some b → w.heap.size ≤ b ∧ b < w'.heap.size) ∧ Below w.heap.size w w'
set_option maxRecDepth 100000 in
set_option maxHeartbeats 4000000 in
theorem get_calls {w0 w : World} {D : Nat} {F : Nat → Prop} {d : DS} (h : Own w0 w D F d) (hf : d.loose.length ≤ 900000) (hd : d.down = false) (a : Int) (n : Nat) (hn : n ≤ 1000000) (ha : 0 ≤ a ∧ a + secs n ≤ d.n) :
    Calls Try.prog 52 #[.pointer (some ⟨D, 0, none⟩), .int .i64 a, .int .i64 (n : Int)] w fun e w' => ∃ v, e = .returned v ∧ Got w w' ((run d.look a (secs n)).take n) v := by
  obtain ⟨i0, hi, hz0, hz1, hz2⟩ := info_parts inf1
  have hfl : ∀ i, (d.look i).length = 512 := by
    intro i
    unfold DS.look
    rcases DS.put_mem d.firm d.loose i with e | e
    · rw [e]; exact h.disk.ok.firm i
    · exact (h.disk.ok.loose _ e).1
  have hdn := h.disk.ok.n
  obtain ⟨m, hm⟩ : ∃ m, secs n = m := ⟨_, rfl⟩
  have hsc := sectors_calls w n (by omega)
  rw [show (n + 511) / 512 = secs n from rfl, hm] at hsc
  rw [hm] at ha ⊢
  have hmb : m ≤ 4096 := by omega
  have hnm : n ≤ 512 * m := by rw [← hm]; unfold secs; omega
  go_enter Try.func52, Try.ntmps52
  go_wp2_with fail
  refine hsc.mono ?_
  rintro e w1 ⟨rfl, rfl⟩
  clear hsc
  go_wp2_with fail
  go_loopw [7, 13] (fun x i wr => ∃ k : Nat, k ≤ m ∧ i = .int .i64 (k : Int) ∧ wr.ownsRow w1.heap.size 5 1 x (run d.look a k).length (cel (run d.look a k)) ∧ Below w1.heap.size w1 wr) (fun _ i _ => m - (intOf i).toNat)
  case atStart => exact ⟨0, Nat.zero_le _, rfl, ⟨by rfl, .inl ⟨rfl, rfl⟩⟩, Below.refl _ _⟩
  case round =>
    obtain ⟨k, hk, rfl, hrow, hB⟩ := hrel
    have hk0 : (0 : Int) ≤ (k : Int) := by omega
    have hkm : (k : Int) ≤ 4096 := by omega
    obtain ⟨A, c, rfl⟩ := row_form hrow
    have hlt := hrow.lt
    have hrl := run_len hfl a k
    by_cases hkl : k < m
    · have hki : (k : Int) < (m : Int) := by omega
      have hO := h.over hB
      have hrd := read_ok hO.disk (by omega) (a + k) (by unfold DS.at_; rw [if_neg (by rw [hd]; simp), if_neg (by omega)])
      go_wp2_with fail
      refine hrd.mono ?_
      rintro e w2 ⟨v, rfl, hv, ⟨A2, n2, c2, rfl⟩, hvb, hB2⟩
      clear hrd
      have hrow2 := ownsRow_of (w' := w2) hrow fun b hb => hB2.block b (hlt b hb).2
      obtain ⟨N, hN⟩ : ∃ N, (run d.look a k).length = N := ⟨_, rfl⟩
      rw [hN] at hrow2 hrow hlt hrl ⊢
      have hNb : N ≤ 2097152 := by omega
      clear hrl
      go_wp2_with (at_builtin; refine append_any rfl _ _ 30 rfl w1.heap.size 5 i0 (.int .u8 0) 1 Try.underlying30 hi hz0 hz1 hz2 rfl _ N (cel (run d.look a k)) rfl hrow2 _ (cel (d.look (a + k))) rfl hv (cel_one _) ?q1 ?q2 ?q3 ?_)
      case q1 => rw [cel_length, hfl]; simp only [maxLen]; omega
      case q2 => rw [cel_length, hfl]; omega
      case q3 => have := hB.size; have := hB2.size; omega
      intro v' w3 hown3 hgrow hnil
      have hB3 : Below w1.heap.size w1 w3 := (hB.trans (hB2.mono hB.size)).grown hgrow (by have := hB.size; have := hB2.size; omega) (fun b hb => (hlt b hb).1)
      go_wp2_with fail
      refine ⟨⟨k + 1, by omega, rfl, ?_, hB3⟩, by simp only [intOf]; omega⟩
      rw [run, List.length_append, hN, show cel (run d.look a k ++ d.look (a + k)) = cel (run d.look a k) ++ cel (d.look (a + k)) by unfold cel; rw [List.map_append], ← cel_length (d.look (a + k))]
      exact hown3
    · obtain rfl : k = m := by omega
      have hki : ¬(k : Int) < (k : Int) := by omega
      have hsl := Sl.own hrow
      obtain ⟨N, hN⟩ : ∃ N, (run d.look a k).length = N := ⟨_, rfl⟩
      rw [hN] at hrow hlt hsl hrl ⊢
      have hnc : (n : Int) ≤ (c : Int) := by
        obtain ⟨A', c', e, h1, -⟩ := hsl
        cases e
        rw [cel_length] at h1
        omega
      have hs2 := hsl.first n (by rw [cel_length]; omega)
      have e2 : (cel (run d.look a k)).take n = cel ((run d.look a k).take n) := by unfold cel; rw [List.map_take]
      rw [e2] at hs2
      have hL : ((run d.look a k).take n).length = n := by rw [List.length_take]; omega
      clear hrl
      go_wp2_with fail
      go_ret
      exact ⟨_, rfl, hs2, ⟨A, c, by rw [hL]; rfl⟩, fun b hb => hlt b (own_len hb), hB⟩
end Go.Proofs.Ytdlokmlcdlcfaaa

/-
  The walk of the law ChunkAhead: it returns true on all texts; new blocks alone are made.
-/
import Derived.Test.YtebpelfmllkpbaaCkLaws
import Derived.Test.YtebpelfmllkpbaaCkPB
namespace Go.Proofs.Ytebpelfmllkpbaa
open Go.RowKit
set_option linter.unusedVariables false

/-- At the head of the loop: the first chunks of both texts are r, and end at k. -/
structure AhI (p a b : ByteArray) (r : List (List UInt8)) (k : Nat) : Prop where
  one : Cutting (p ++ a).data.toList r k
  two : Cutting (p ++ b).data.toList r k
theorem AhI.step {p a b : ByteArray} {r : List (List UInt8)} {k : Nat} (h : AhI p a b r k) (hi : r.length < (texts (p ++ a)).length) (hj : r.length < (texts (p ++ b)).length) (hk : k + chunkLen (restOf (p ++ a) k) < p.size) :
    (texts (p ++ b))[r.length] = (texts (p ++ a))[r.length] ∧ AhI p a b (r ++ [(restOf (p ++ a) k).take (chunkLen (restOf (p ++ a) k))]) (k + chunkLen (restOf (p ++ a) k)) := by
  obtain ⟨a1, a2, _⟩ := texts_at h.one hi
  obtain ⟨b1, b2, _⟩ := texts_at h.two hj
  have hl : chunkLen (restOf (p ++ b) k) = chunkLen (restOf (p ++ a) k) := by
    have := ahead_len p.data.toList a.data.toList b.data.toList k (by rw [← app_list, ← size_len]; exact hk)
    rw [← app_list, ← app_list] at this; exact this
  have ht : (restOf (p ++ b) k).take (chunkLen (restOf (p ++ a) k)) = (restOf (p ++ a) k).take (chunkLen (restOf (p ++ a) k)) := by
    have := ahead_take p.data.toList a.data.toList b.data.toList k (chunkLen (restOf (p ++ a) k)) (by rw [← size_len]; exact hk)
    rw [← app_list, ← app_list] at this; exact this
  refine ⟨by rw [a2, b2, hl, ht], h.one.next a1, ?_⟩
  have := h.two.next b1
  rw [hl, ht] at this
  exact this

set_option maxHeartbeats 2000000 in
theorem chunkAhead_main (p a b : ByteArray) (s0 a0 b0 : ByteArray) (w : World) (hm : Hid (s0.size ≤ maxLen ∧ a0.size ≤ maxLen ∧ b0.size ≤ maxLen)) (hc : Hid (cut4 s0 = p ∧ cut4 a0 = a ∧ cut4 b0 = b)) (hp : p.size ≤ 5000) (ha : a.size ≤ 5000) (hb : b.size ≤ 5000) :
    Calls Try.prog 10 #[.string s0, .string a0, .string b0] w fun e w' => e = .returned (.bool true) ∧ Below w.heap.size w w' := by
  have hsh1 : Hid (∀ w, Calls Try.prog 24 #[.string s0] w fun e w' => e = .returned (.string p) ∧ w = w') := Lib.hid fun w => by rw [← hc.out.1]; exact short4_any s0 w hm.out.1
  have hsh2 : Hid (∀ w, Calls Try.prog 24 #[.string a0] w fun e w' => e = .returned (.string a) ∧ w = w') := Lib.hid fun w => by rw [← hc.out.2.1]; exact short4_any a0 w hm.out.2.1
  have hsh3 : Hid (∀ w, Calls Try.prog 24 #[.string b0] w fun e w' => e = .returned (.string b) ∧ w = w') := Lib.hid fun w => by rw [← hc.out.2.2]; exact short4_any b0 w hm.out.2.2
  have hsz1 : Hid ((p ++ a).size ≤ 20000) := Lib.hid (by simp; omega)
  have hsz2 : Hid ((p ++ b).size ≤ 20000) := Lib.hid (by simp; omega)
  have hcn := Lib.hid (texts_count (p ++ a))
  have hcn2 := Lib.hid (texts_count (p ++ b))
  clear hc hm
  go_enter Try.func10, Try.ntmps10
  go_wp2_with fail
  refine (hsh1.out _).mono ?_
  rintro e w' ⟨rfl, rfl⟩
  go_wp2_with fail
  refine (hsh2.out _).mono ?_
  rintro e w' ⟨rfl, rfl⟩
  go_wp2_with fail
  refine (hsh3.out _).mono ?_
  rintro e w' ⟨rfl, rfl⟩
  go_wp2_with fail
  refine (chTexts_any (p ++ a) _ hsz1.out _ rfl).mono ?_
  rintro e w1 ⟨x1, n1, c1, rfl, hs1, hb1, _⟩
  have HS1 := Lib.hid hs1
  have HB1 := Lib.hid hb1
  clear hs1 hb1
  go_wp2_with fail
  refine (chTexts_any (p ++ b) _ hsz2.out _ rfl).mono ?_
  rintro e w2 ⟨x2, n2, c2, rfl, hs2, hb2, _⟩
  have HS2 := Lib.hid hs2
  have HS1 := Lib.hid (HS1.out.keep hb2)
  have HB2 := Lib.hid (below_then HB1.out hb2 HB1.out.size)
  have HN1 := Lib.hid (HS1.out.1.trans (strs_length _))
  have HN2 := Lib.hid (HS2.out.1.trans (strs_length _))
  have hn1 : n1 ≤ 20000 := by have := HN1.out; have := hcn.out; have := hsz1.out; omega
  have hn2 : n2 ≤ 20000 := by have := HN2.out; have := hcn2.out; have := hsz2.out; omega
  clear hs2 hb2
  go_wp2_with fail
  go_loopg [9, 10] n1 (fun gk n i wr => ∃ (r : List (List UInt8)) (k m : Nat), r.length ≤ n1 ∧ gk = n1 - r.length ∧ n = .int .i64 k ∧ i = .int .i64 (r.length : Int) ∧ k ≤ 20000 ∧ wr = w2.drewN m ∧ Hid (AhI p a b r k))
  case atStart => exact ⟨[], 0, 0, Nat.zero_le _, rfl, rfl, rfl, Nat.zero_le _, rfl, ⟨Cutting.start, Cutting.start⟩⟩
  case round =>
    obtain ⟨r, k, m, hr, rfl, rfl, rfl, hk, rfl, hI⟩ := hrel
    by_cases d1 : r.length < n1
    · by_cases d2 : r.length < n2
      · have hi : r.length < (texts (p ++ a)).length := by rw [← HN1.out]; exact d1
        have hj : r.length < (texts (p ++ b)).length := by rw [← HN2.out]; exact d2
        obtain ⟨-, y1, o1, rfl, hc1⟩ := HS1.out.str (by omega)
        obtain ⟨-, y2, o2, rfl, hc2⟩ := HS2.out.str (by omega)
        have hcx := hc1 r.length hi
        have hcy := hc2 r.length hj
        obtain ⟨a1, a2, _⟩ := texts_at hI.out.one hi
        have hle := rest_le (p ++ a) k a1
        have hlen : ((texts (p ++ a))[r.length]).size = chunkLen (restOf (p ++ a) k) := by
          rw [a2, strOf_size, List.length_take, restOf_length]; omega
        have HLEN := Lib.hid hlen
        have hst := fun h => hI.out.step hi hj (by rw [← hlen]; exact h)
        rw [← hlen] at hst hle
        have hle2 : k + ((texts (p ++ a))[r.length]).size ≤ 20000 := by have := hsz1.out; omega
        have HST := Lib.hid hst
        clear hst hc1 hc2 a2 hle hlen
        by_cases d3 : k + ((texts (p ++ a))[r.length]).size < p.size
        · obtain ⟨he, hnx⟩ := HST.out d3
          rw [he] at hcy
          have HNX := Lib.hid hnx
          clear he hnx HST HLEN
          generalize (texts (p ++ a))[r.length] = t at *
          have htt : (t.toList != t.toList) = false := by simp
          have hi1 : (r.length : Int) < (n1 : Int) := by omega
          have hi2 : (r.length : Int) < (n2 : Int) := by omega
          go_wp2
          go_quiet (fail)
          go_wp2
          go_roundg (n1 - (r.length + 1))
          case rel => exact ⟨_, k + t.size, _, by simp; omega, by simp, by go_num, by simp, by omega, by first | rfl | exact World.drewN_drewN _ _ _, HNX⟩
          case measure => omega
        · clear HST HLEN
          generalize (texts (p ++ a))[r.length] = t at *
          go_wp2_with fail
          refine (chCuts_a _).mono ?_
          rintro e w7 ⟨a7, n7, c7, rfl, hs7, hb7, _⟩
          obtain rfl : n7 = 1 := sl_len hs7
          have HB7 := Lib.hid (below_then (below_drewN HB2.out m) hb7 (by have := HB2.out.size; exact this))
          clear hs7 hb7
          go_wp2
          go_ret
          exact ⟨rfl, HB7.out⟩
      · go_wp2_with fail
        refine (chCuts_a _).mono ?_
        rintro e w7 ⟨a7, n7, c7, rfl, hs7, hb7, _⟩
        obtain rfl : n7 = 1 := sl_len hs7
        have HB7 := Lib.hid (below_then (below_drewN HB2.out m) hb7 (by have := HB2.out.size; exact this))
        clear hs7 hb7
        go_wp2
        go_ret
        exact ⟨rfl, HB7.out⟩
    · go_wp2_with fail
      refine (chCuts_a _).mono ?_
      rintro e w7 ⟨a7, n7, c7, rfl, hs7, hb7, _⟩
      obtain rfl : n7 = 1 := sl_len hs7
      have HB7 := Lib.hid (below_then (below_drewN HB2.out m) hb7 (by have := HB2.out.size; exact this))
      clear hs7 hb7
      go_wp2
      go_ret
      exact ⟨rfl, HB7.out⟩
theorem chunkAhead_walk (s a b : ByteArray) (w : World) (hs : s.size ≤ maxLen) (ha : a.size ≤ maxLen) (hb : b.size ≤ maxLen) :
    Calls Try.prog 10 #[.string s, .string a, .string b] w fun e w' => e = .returned (.bool true) ∧ Below w.heap.size w w' :=
  chunkAhead_main _ _ _ s a b w (Lib.hid ⟨hs, ha, hb⟩) (Lib.hid ⟨rfl, rfl, rfl⟩) (cut4_le s) (cut4_le a) (cut4_le b)
end Go.Proofs.Ytebpelfmllkpbaa

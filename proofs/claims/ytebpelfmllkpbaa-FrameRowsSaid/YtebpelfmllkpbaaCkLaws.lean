/-
  The walk of the laws' short, and of the law ChunkCuts: it returns true on every text; new blocks alone are made.
-/
import Derived.Test.YtebpelfmllkpbaaCkRefB
namespace Go.Proofs.Ytebpelfmllkpbaa
open Go.RowKit
set_option linter.unusedVariables false

set_option maxHeartbeats 400000 in
theorem short4_small (s : ByteArray) (w : World) (h : s.size ≤ 5000) :
    Calls Try.prog 24 #[.string s] w fun e w' => e = .returned (.string s) ∧ w = w' := by
  go_enter Try.func24, Try.ntmps24
  go_wp2
  go_ret
  exact ⟨rfl, rfl⟩
set_option maxHeartbeats 400000 in
theorem short4_great (s : ByteArray) (w : World) (hs : s.size ≤ maxLen) (h : 5000 < s.size) :
    Calls Try.prog 24 #[.string s] w fun e w' => e = .returned (.string (s.extract 0 5000)) ∧ w = w' := by
  unfold maxLen at hs
  go_enter Try.func24, Try.ntmps24
  go_wp2
  go_ret
  exact ⟨rfl, rfl⟩
def cut4 (s : ByteArray) : ByteArray := if 5000 < s.size then s.extract 0 5000 else s
theorem cut4_le (s : ByteArray) : (cut4 s).size ≤ 5000 := by
  unfold cut4; split
  · simp; omega
  · omega
theorem short4_any (s : ByteArray) (w : World) (hs : s.size ≤ maxLen) :
    Calls Try.prog 24 #[.string s] w fun e w' => e = .returned (.string (cut4 s)) ∧ w = w' := by
  unfold cut4
  by_cases h : 5000 < s.size
  · rw [if_pos h]; exact short4_great s w hs h
  · rw [if_neg h]; exact short4_small s w (by omega)
attribute [irreducible] cut4

theorem cuts_a : cuts [97] = [1] := by decide
theorem chCuts_a (w : World) : Calls Try.prog 26 #[.string ⟨#[97]⟩] w (RetSl w [.int .i64 1]) :=
  chCuts_any ⟨#[97]⟩ w (by decide) _ (by
    have h : (⟨#[97]⟩ : ByteArray).data.toList = [97] := rfl
    rw [h, cuts_a]; rfl)
theorem sl_len {w : World} {a : Option Addr} {n : Nat} {xs : List Value} (h : SlAt w a n xs) : n = xs.length := h.1
theorem ints_same (a b : Option Addr) (n m c d : Nat) (xs : List Int) (w : World) (h1 : SlAt w a n (i64s xs)) (h2 : SlAt w b m (i64s xs)) (hn : xs.length ≤ 9223372036854775807) :
    Calls Try.prog 25 #[.slice a n c, .slice b m d] w fun e w' => e = .returned (.bool true) ∧ ∃ k, w' = w.drewN k := by
  have h := ints_any a b n m c d xs xs w h1 h2 (by rw [h1.1, i64s_length]; exact hn)
  rwa [intsB_yes rfl] at h
theorem like_same (a b : Option Addr) (n m c d : Nat) (xs : List ByteArray) (w : World) (h1 : SlAt w a n (strs xs)) (h2 : SlAt w b m (strs xs)) (hn : xs.length ≤ 9223372036854775807) :
    Calls Try.prog 21 #[.slice a n c, .slice b m d] w fun e w' => e = .returned (.bool true) ∧ ∃ k, w' = w.drewN k := by
  have h := like_any a b n m c d xs xs w h1 h2 (by rw [h1.1, strs_length]; exact hn)
  rwa [likeB_yes rfl] at h

set_option maxHeartbeats 400000 in
theorem chunkCuts_walk (s : ByteArray) (w : World) (hs : s.size ≤ maxLen) :
    Calls Try.prog 9 #[.string s] w fun e w' => e = .returned (.bool true) ∧ Below w.heap.size w w' := by
  have hm := Lib.hid hs
  have ht := Lib.hid (Nat.le_trans (cut4_le s) (show 5000 ≤ 20000 by omega))
  have hc1 : Hid ((natInts (cuts (cut4 s).data.toList)).length ≤ 9223372036854775807) := Lib.hid (by
    rw [natInts_length, cuts_length]; have h1 := chunks_count (cut4 s).data.toList; rw [← size_len] at h1; have := ht.out; omega)
  have hc2 : Hid ((texts (cut4 s)).length ≤ 9223372036854775807) := Lib.hid (by have := texts_count (cut4 s); have := ht.out; omega)
  clear hs
  go_enter Try.func9, Try.ntmps9
  go_wp2_with fail
  refine (short4_any s _ hm.out).mono ?_
  rintro e w' ⟨rfl, rfl⟩
  generalize cut4 s = t at *
  go_wp2_with fail
  refine (chCuts_any t _ ht.out _ rfl).mono ?_
  rintro e w1 ⟨a1, n1, c1, rfl, hs1, hb1, _⟩
  have HS1 := Lib.hid hs1
  have HB1 := Lib.hid hb1
  clear hs1 hb1
  go_wp2_with fail
  refine (reCuts_any t _ ht.out _ rfl).mono ?_
  rintro e w2 ⟨a2, n2, c2, rfl, hs2, hb2, _⟩
  have HS2 := Lib.hid hs2
  have HS1 := Lib.hid (HS1.out.keep hb2)
  have HB2 := Lib.hid (below_then HB1.out hb2 HB1.out.size)
  clear hs2 hb2
  go_wp2_with fail
  refine (ints_same _ _ _ _ _ _ _ _ HS1.out HS2.out hc1.out).mono ?_
  rintro e w3 ⟨rfl, m3, rfl⟩
  go_wp2_with fail
  refine (chTexts_any t _ ht.out _ rfl).mono ?_
  rintro e w4 ⟨a4, n4, c4, rfl, hs4, hb4, _⟩
  have HS4 := Lib.hid hs4
  have HB4 := Lib.hid (below_then (below_drewN HB2.out m3) hb4 (by have := HB2.out.size; exact this))
  clear hs4 hb4
  go_wp2_with fail
  refine (reTexts_any t _ ht.out _ rfl).mono ?_
  rintro e w5 ⟨a5, n5, c5, rfl, hs5, hb5, _⟩
  have HS5 := Lib.hid hs5
  have HS4 := Lib.hid (HS4.out.keep hb5)
  have HB5 := Lib.hid (below_then HB4.out hb5 HB4.out.size)
  clear hs5 hb5
  go_wp2_with fail
  refine (like_same _ _ _ _ _ _ _ _ HS4.out HS5.out hc2.out).mono ?_
  rintro e w6 ⟨rfl, m6, rfl⟩
  go_wp2_with fail
  refine (chCuts_a _).mono ?_
  rintro e w7 ⟨a7, n7, c7, rfl, hs7, hb7, _⟩
  obtain rfl : n7 = 1 := sl_len hs7
  have HB7 := Lib.hid (below_then (below_drewN HB5.out m6) hb7 (by have := HB5.out.size; exact this))
  clear hs7 hb7
  go_wp2
  go_ret
  exact ⟨rfl, HB7.out⟩
end Go.Proofs.Ytebpelfmllkpbaa

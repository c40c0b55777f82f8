/-
  The walk of the law ChunkWhole: it returns true on every text; new blocks alone are made.
-/
import Derived.Test.YtebpelfmllkpbaaCkLaws
import Derived.Test.YtebpelfmllkpbaaCkPB
import Derived.Test.YtebpelfmllkpbaaJoin
namespace Go.Proofs.Ytebpelfmllkpbaa
open Go.RowKit
set_option linter.unusedVariables false

set_option maxHeartbeats 2000000 in
theorem chunkWhole_main (s t : ByteArray) (w : World) (hm : Hid (s.size ≤ maxLen)) (hc : Hid (cut4 s = t)) (ht : t.size ≤ 5000) :
    Calls Try.prog 12 #[.string s] w fun e w' => e = .returned (.bool true) ∧ Below w.heap.size w w' := by
  have hsh : Hid (∀ w, Calls Try.prog 24 #[.string s] w fun e w' => e = .returned (.string t) ∧ w = w') := Lib.hid fun w => by rw [← hc.out]; exact short4_any s w hm.out
  have hcn := Lib.hid (texts_count t)
  have hfl := Lib.hid (flat_texts t)
  clear hc hm
  go_enter Try.func12, Try.ntmps12
  go_wp2_with fail
  refine (hsh.out _).mono ?_
  rintro e w' ⟨rfl, rfl⟩
  go_wp2_with fail
  refine (chTexts_any t _ (by omega) _ rfl).mono ?_
  rintro e w1 ⟨x1, n1, c1, rfl, hs1, hb1, _, hcap⟩
  have HS1 := Lib.hid hs1
  have HB1 := Lib.hid hb1
  have HN1 := Lib.hid (HS1.out.1.trans (strs_length _))
  have hn1 : n1 ≤ 20000 := by have := HN1.out; have := hcn.out; omega
  have HJ := Lib.hid (join_flat x1 n1 c1 (texts t) w1 hs1 hcap (by have := hcn.out; omega) (by rw [hfl.out, ← size_len]; omega))
  clear hs1 hb1
  go_wp2_with fail
  refine HJ.out.mono ?_
  rintro e w2 ⟨rfl, hb2⟩
  rw [hfl.out, strOf_self]
  have HB2 := Lib.hid (below_then HB1.out hb2 HB1.out.size)
  have HS2 := Lib.hid (HS1.out.keep hb2)
  clear hb2 HJ HS1
  have htt : (t.toList != t.toList) = false := by simp
  go_wp2_with fail
  go_loopg [16] n1 (fun gk i wr => ∃ (r : List (List UInt8)) (k : Nat), r.length ≤ n1 ∧ gk = n1 - r.length ∧ i = .int .i64 (r.length : Int) ∧ k ≤ 5000 ∧ w2 = wr ∧ Hid (Cutting t.data.toList r k))
  case atStart => exact ⟨[], 0, Nat.zero_le _, rfl, rfl, Nat.zero_le _, rfl, Cutting.start⟩
  case round =>
    obtain ⟨r, k, hr, rfl, rfl, hk, rfl, hI⟩ := hrel
    by_cases d1 : r.length < n1
    · have hi : r.length < (texts t).length := by rw [← HN1.out]; exact d1
      obtain ⟨-, y1, o1, rfl, hc1⟩ := HS2.out.str (by omega)
      have hcx := hc1 r.length hi
      obtain ⟨a1, a2, a3⟩ := texts_at hI.out hi
      have hle := rest_le t k a1
      have hps := rest_pos t k
      have hlen : ((texts t)[r.length]).size = chunkLen (restOf t k) := by
        rw [a2, strOf_size, List.length_take, restOf_length]; omega
      have h512 : ((texts t)[r.length]).size ≤ 512 := by rw [hlen]; exact chunkLen_le512 _
      have h1 : 1 ≤ ((texts t)[r.length]).size := by rw [hlen]; exact hps
      have h32 : r.length + 1 < n1 → 32 ≤ ((texts t)[r.length]).size := fun h => by
        rw [hlen]
        refine why_short _ ?_
        rw [restOf_length]
        have : ¬ t.size ≤ k + chunkLen (restOf t k) := fun h => by have := a3.2 h; have := HN1.out; omega
        omega
      have H32 := Lib.hid h32
      have HNX : Hid (Cutting t.data.toList (r ++ [(restOf t k).take (chunkLen (restOf t k))]) (k + ((texts t)[r.length]).size)) := Lib.hid (by rw [hlen]; exact hI.out.next a1)
      have hle2 : k + ((texts t)[r.length]).size ≤ 5000 := by rw [hlen]; omega
      clear hc1 a2 a3 hle hlen hps h32
      generalize (texts t)[r.length] = T at *
      by_cases dl : r.length + 1 < n1
      · have h32 := H32.out dl
        go_wp2_with fail
        go_roundg (n1 - (r.length + 1))
        case rel => exact ⟨_, k + T.size, by simp; omega, by simp, by simp, by omega, rfl, HNX⟩
        case measure => omega
      · go_wp2_with fail
        go_roundg (n1 - (r.length + 1))
        case rel => exact ⟨_, k + T.size, by simp; omega, by simp, by simp, by omega, rfl, HNX⟩
        case measure => omega
    · go_wp2_with fail
      refine (chCuts_a _).mono ?_
      rintro e w7 ⟨a7, n7, c7, rfl, hs7, hb7, _⟩
      obtain rfl : n7 = 1 := sl_len hs7
      have HB7 := Lib.hid (below_then HB2.out hb7 HB2.out.size)
      clear hs7 hb7
      go_wp2
      go_ret
      exact ⟨rfl, HB7.out⟩
theorem chunkWhole_walk (s : ByteArray) (w : World) (hs : s.size ≤ maxLen) :
    Calls Try.prog 12 #[.string s] w fun e w' => e = .returned (.bool true) ∧ Below w.heap.size w w' :=
  chunkWhole_main s _ w (Lib.hid hs) (Lib.hid rfl) (cut4_le s)
end Go.Proofs.Ytebpelfmllkpbaa


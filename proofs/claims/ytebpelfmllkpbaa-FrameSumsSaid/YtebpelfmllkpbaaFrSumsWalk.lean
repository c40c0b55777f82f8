/-
  The walk of the law FrameSums: it returns true on every text; new blocks alone are made. The text's length is at most the greatest int.
-/
import Derived.Test.YtebpelfmllkpbaaFrWalkB
namespace Go.Proofs.Ytebpelfmllkpbaa
open Go.RowKit

set_option maxHeartbeats 400000 in
theorem frameSums_great (s : ByteArray) (w : World) (hs : s.size ≤ maxLen) (h : 65536 < s.size) :
    Calls Try.prog 4 #[.string s] w fun e w' => e = .returned (.bool true) ∧ Below w.heap.size w w' := by
  have hml := Lib.hid hs
  unfold maxLen at hs
  go_enter Try.func4, Try.ntmps4
  go_wp2_with fail
  refine (frPut_long s _ hml.out h).mono ?_
  rintro e w1 ⟨rfl, rfl⟩
  go_wp2
  go_ret
  exact ⟨rfl, Below.refl _ _⟩

set_option maxHeartbeats 400000 in
theorem frameSums_mid (s : ByteArray) (w : World) (h : s.size ≤ 65536) (h2 : 20000 < s.size) :
    Calls Try.prog 4 #[.string s] w fun e w' => e = .returned (.bool true) ∧ Below w.heap.size w w' := by
  have hf := frameOf_size s
  go_enter Try.func4, Try.ntmps4
  go_wp2_with fail
  refine (frPut_any s _ h).mono ?_
  rintro e w1 ⟨rfl, hb1⟩
  go_wp2
  go_ret
  exact ⟨ret_bool (by simp), hb1⟩

set_option maxHeartbeats 400000 in
theorem frameSums_small (s : ByteArray) (w : World) (h : s.size ≤ 20000) :
    Calls Try.prog 4 #[.string s] w fun e w' => e = .returned (.bool true) ∧ Below w.heap.size w w' := by
  have hml0 : s.size ≤ maxLen := by unfold maxLen; omega
  have hml := Lib.hid hml0
  clear hml0
  go_enter Try.func4, Try.ntmps4
  go_wp2_with fail
  refine (frPut_any s _ (by omega)).mono ?_
  rintro e w1 ⟨rfl, hb1⟩
  go_wp2_with fail
  refine (frSumI_any s _ hml.out).mono ?_
  rintro e w2 ⟨rfl, rfl⟩
  go_wp2_with fail
  refine (reSumI_any s _ hml.out).mono ?_
  rintro e w2 ⟨rfl, rfl⟩
  go_wp2_with fail
  refine (reFrame_any s _ (by omega)).mono ?_
  rintro e w2 ⟨rfl, hb2⟩
  go_wp2
  go_ret
  exact ⟨ret_bool (by simp), hb1.trans (hb2.mono hb1.size)⟩

theorem frameSums_walk (s : ByteArray) (w : World) (hs : s.size ≤ maxLen) :
    Calls Try.prog 4 #[.string s] w fun e w' => e = .returned (.bool true) ∧ Below w.heap.size w w' := by
  by_cases h : 65536 < s.size
  · exact frameSums_great s w hs h
  · by_cases h2 : 20000 < s.size
    · exact frameSums_mid s w (by omega) h2
    · exact frameSums_small s w (by omega)
end Go.Proofs.Ytebpelfmllkpbaa

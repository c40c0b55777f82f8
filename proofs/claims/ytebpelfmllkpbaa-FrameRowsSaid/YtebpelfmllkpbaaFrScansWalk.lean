/-
  The walk of the law FrameScans: it returns true on all texts; new blocks alone are made. Ahead of it: every text's frames are told to the end.
-/
import Derived.Test.YtebpelfmllkpbaaFrScan
import Derived.Test.YtebpelfmllkpbaaCkLaws
import Derived.Test.YtebpelfmllkpbaaFrBurstsWalk
namespace Go.Proofs.Ytebpelfmllkpbaa
open Go.RowKit
set_option linter.unusedVariables false

theorem told_end (l : List UInt8) : ∀ m r k, l.length - k ≤ m → Told l r k → ∃ r' k', Told l r' k' ∧ oneL (l.drop k') = none := by
  intro m
  induction m with
  | zero =>
    intro r k h ht
    refine ⟨r, k, ht, ?_⟩
    unfold oneL; rw [if_pos (by simp; omega)]
  | succ m ih =>
    intro r k h ht
    cases ho : oneL (l.drop k) with
    | none => exact ⟨r, k, ht, ho⟩
    | some b => exact ih _ _ (by omega) (Told.step ht ho)
theorem bodies_told (l : List UInt8) : Told l (bodies l) (taken (bodies l)) ∧ oneL (l.drop (taken (bodies l))) = none := by
  obtain ⟨r, k, ht, hn⟩ := told_end l l.length [] 0 (by omega) Told.start
  obtain ⟨e1, e2⟩ := ht.done hn
  rw [e2, e1]
  exact ⟨ht, hn⟩
theorem bodies_count (l : List UInt8) : 12 * (bodies l).length ≤ l.length := Nat.le_trans (bodies_told l).1.count (bodies_told l).1.le

set_option maxHeartbeats 400000 in
theorem frameScans_walk (s : ByteArray) (w : World) (hs : s.size ≤ maxLen) :
    Calls Try.prog 5 #[.string s] w fun e w' => e = .returned (.bool true) ∧ Below w.heap.size w w' := by
  have hm := Lib.hid hs
  have ht := Lib.hid (Nat.le_trans (cut2_le s) (show 20000 ≤ 200000 by omega))
  have hc1 : Hid (((bodies (cut2 s).data.toList).map strOf).length ≤ 9223372036854775807) := Lib.hid (by
    rw [List.length_map]; have h1 := bodies_count (cut2 s).data.toList; rw [← size_len] at h1; have := ht.out; omega)
  clear hs
  go_enter Try.func5, Try.ntmps5
  go_wp2_with fail
  refine (short2_any s _ hm.out).mono ?_
  rintro e w' ⟨rfl, rfl⟩
  generalize cut2 s = t at *
  go_wp2_with fail
  refine (frScan_any t _ ht.out _ (Lib.hid rfl)).mono ?_
  rintro e w1 ⟨a1, n1, c1, rfl, hs1, hb1, _⟩
  have HS1 := Lib.hid hs1
  have HB1 := Lib.hid hb1
  clear hs1 hb1
  go_wp2_with fail
  refine (reScan_any t _ ht.out _ (Lib.hid rfl)).mono ?_
  rintro e w2 ⟨a2, n2, c2, rfl, hs2, hb2, _⟩
  have HS2 := Lib.hid hs2
  have HS1 := Lib.hid (HS1.out.keep hb2)
  have HB2 := Lib.hid (below_then HB1.out hb2 HB1.out.size)
  clear hs2 hb2
  go_wp2_with fail
  refine (like_same _ _ _ _ _ _ _ _ HS1.out HS2.out hc1.out).mono ?_
  rintro e w6 ⟨rfl, m6, rfl⟩
  go_wp2_with fail
  refine (frSum_const _ _ _ sumI_a (by decide)).mono ?_
  rintro e w' ⟨rfl, rfl⟩
  go_wp2
  go_ret
  exact ⟨rfl, below_drewN HB2.out m6⟩
end Go.Proofs.Ytebpelfmllkpbaa

/-
  The walk of the law CodeReads: it returns true.
-/
import Derived.Test.YtdlnabjledhiiaaDoorRfGet
import Derived.Test.YtdlnabjledhiiaaDoorLk
namespace Go.Proofs.YtdlnabjledhiiaaDoor
open Go.RowKit
set_option linter.unusedVariables false

theorem cnt_zero : zeroV.cnt ≤ 4611686018427387904 := by simp [zeroV, V.cnt, cntAll]
theorem getL_cnt (s : ByteArray) : (getL s).v.cnt ≤ 4611686018427387904 := by
  by_cases h : (getL s).bad = 0
  · have := (getL_ok s h).2.2.1; omega
  · rw [(getL_no s h).1]; exact cnt_zero

set_option maxRecDepth 20000 in
set_option maxHeartbeats 1000000 in
theorem codeReads_walk (s : ByteArray) (w : World) (hm : s.size ≤ 9223372036854775807) :
    Calls Tryd.prog 7 #[.string s] w (fun e w' => e = .returned (.bool true) ∧ Below w.heap.size w w') := by
  have HG1 := Lib.hid (get_any s w hm)
  have HG2 : Hid (∀ w1, Calls Tryd.prog 23 #[.string s] w1 (GetPost w1 (getL s))) := Lib.hid fun w1 => rget_any s w1 hm
  have HC := Lib.hid (getL_cnt s)
  generalize getL s = g at *
  obtain ⟨x, bad, at_⟩ := g
  dsimp only at HC
  go_enter Tryd.func7, Tryd.ntmps7
  go_wp2_with fail
  refine HG1.out.mono ?_
  rintro e w2 ⟨cs, rfl, hat, hb2⟩
  have HAT := Lib.hid (V.At.move (T := fun b => b < w2.heap.size) (fun _ (h : _ ∧ _) => h.2) (fun _ _ => rfl) _ _ hat)
  have HB2 := Lib.hid hb2
  clear HG1 hat hb2
  obtain ⟨k, n, t, l⟩ := x
  have HAT2 := HAT.out
  simp only [V.At] at HAT2
  obtain ⟨a, c, rfl, -, -, -⟩ := HAT2
  generalize hlm : l.length = lm at *
  have HLM := Lib.hid hlm
  clear hlm
  have HF3 := Lib.hid (Four.new w2 42 (.int .i64 k) (.int .i64 n) (.string t) (.slice a lm c))
  have HB3 := Lib.hid (HB2.out.alloc HB2.out.size (.cells #[.int .i64 k, .int .i64 n, .string t, .slice a lm c] 42))
  have HA3 := Lib.hid (V.At.move (w' := w2.alloc (.cells #[.int .i64 k, .int .i64 n, .string t, .slice a lm c] 42)) (fun _ h => h) (fun b hb => heap_alloc_old w2 _ hb) _ _ HAT.out)
  have hs3 : w2.heap.size < (w2.alloc (.cells #[.int .i64 k, .int .i64 n, .string t, .slice a lm c] 42)).heap.size := by simp
  dsimp only
  clear HAT HB2
  go_wp2_with fail
  generalize w2.alloc (.cells #[.int .i64 k, .int .i64 n, .string t, .slice a lm c] 42) = w3 at *
  refine (HG2.out w3).mono ?_
  rintro e w4 ⟨cs, rfl, hat, hb4⟩
  have HAT4 := Lib.hid (V.At.move (T := fun b => b < w4.heap.size) (fun _ (h : _ ∧ _) => h.2) (fun _ _ => rfl) _ _ hat)
  have HF4 : Hid (Four w4 w2.heap.size 42 (.int .i64 k) (.int .i64 n) (.string t) (.slice a lm c)) := Lib.hid ((hb4.block _ hs3).trans HF3.out)
  have HA4 := Lib.hid (V.At.move (fun _ h => h) (fun b (hb : b < w2.heap.size) => hb4.block b (by omega)) _ _ HA3.out)
  have HB4 := Lib.hid (HB3.out.trans (Below.lower hb4 HB3.out.size))
  have hs4 := hb4.size
  clear HG2 hat hb4 HF3 HA3 HB3
  have HAT2 := HAT4.out
  simp only [V.At] at HAT2
  obtain ⟨a', c', rfl, -, -, -⟩ := HAT2
  rw [HLM.out] at HAT4
  have HF5 := Lib.hid (HF4.out.alloc (.cells #[.int .i64 k, .int .i64 n, .string t, .slice a' lm c'] 42))
  have HN5 := Lib.hid (Four.new w4 42 (.int .i64 k) (.int .i64 n) (.string t) (.slice a' lm c'))
  have HB5 := Lib.hid (HB4.out.alloc HB4.out.size (.cells #[.int .i64 k, .int .i64 n, .string t, .slice a' lm c'] 42))
  have HA5 := Lib.hid (V.At.move (w' := w4.alloc (.cells #[.int .i64 k, .int .i64 n, .string t, .slice a' lm c'] 42)) (fun _ h => h) (fun b (hb : b < w2.heap.size) => heap_alloc_old w4 _ (by omega)) _ _ HA4.out)
  have HA6 := Lib.hid (V.At.move (w' := w4.alloc (.cells #[.int .i64 k, .int .i64 n, .string t, .slice a' lm c'] 42)) (fun _ h => h) (fun b (hb : b < w4.heap.size) => heap_alloc_old w4 _ hb) _ _ HAT4.out)
  have hs5 : w4.heap.size < (w4.alloc (.cells #[.int .i64 k, .int .i64 n, .string t, .slice a' lm c'] 42)).heap.size := by simp
  have HLK := Lib.hid (like_same_any _ _ _ _ (Nat.le_refl _) HC.out _ _ _ (fun p (hp : p < w2.heap.size) => by omega) (fun p (hp : p < w4.heap.size) => by omega) HA5.out HA6.out)
  have m0 := HF5.out.c0
  have m1 := HF5.out.c1
  have m2 := HF5.out.c2
  have m3 := HF5.out.c3
  have n0 := HN5.out.c0
  have n1 := HN5.out.c1
  have n2 := HN5.out.c2
  have n3 := HN5.out.c3
  rw [HLM.out]
  dsimp only
  clear HF4 HN5 HF5 HA4 HA5 HA6 HB4 HAT4
  go_wp2_with fail
  refine HLK.out.mono ?_
  rintro e w7 ⟨rfl, hb7⟩
  have HB7 := Lib.hid (HB5.out.trans (Below.lower hb7 HB5.out.size))
  clear HLK hb7 m0 m1 m2 m3 n0 n1 n2 n3
  go_wp2_with fail
  go_ret
  exact ⟨rfl, HB7.out⟩
end Go.Proofs.YtdlnabjledhiiaaDoor

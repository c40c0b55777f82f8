/-
  The walk of code.reader's value: a text that is one. (Written by wip/mkval.py D.)
-/
import Derived.Test.YtdlnabjledhiiaaDoorCvValC
namespace Go.Proofs.YtdlnabjledhiiaaDoor
open Go.RowKit
set_option linter.unusedVariables false

set_option maxRecDepth 20000 in
set_option maxHeartbeats 4000000 in
theorem value_text_d (r : Nat) (s : ByteArray) (k : Int) (a m : Nat) (w : World) (h : RdAt w r s a m 0) (hs : s.size ≤ 131072) (h1 : a < s.size) (hb : 48 ≤ s[a].toNat ∧ s[a].toNat ≤ 57) (hk : k < 30) (hm : m < 4000)
    (x1 x3 : Nat) (hx : Hid ((x1, true, x3, (0 : Int)) = digitsL s 131072 a (s.size + 1 - a) 0 a)) (y2 : Nat) (hy : Hid ((true, y2, (0 : Int)) = mustL s x3 58)) (hy2 : y2 ≤ s.size) (hx1 : x1 ≤ 131072) (hn : x1 ≤ s.size - y2) :
    Calls Tryd.prog 33 #[.pointer (some ⟨r, 0, none⟩), .int .i64 k] w (ValPost r s w (⟨.mk 2 0 (s.extract y2 (y2 + x1)) [], true, y2 + x1, m + 1, 0⟩)) := by
  have H := Lib.hid h
  have h2 := h.alloc (.cells #[.int .i64 0, .int .i64 0, .string ⟨#[]⟩, .slice none 0 0] 42)
  have c0 := h2.c0
  have c1 := h2.c1
  have c2 := h2.c2
  have f1 := h2.free 1 (by decide)
  have f2 := h2.free 2 (by decide)
  have hmi : (m : Int) < 4000 := by omega
  have hi : (a : Int) < (s.size : Int) := by omega
  have q1 : ((s[a].toNat : Int) != 105) = true := by rw [bne_iff_ne]; omega
  have q2 : ((s[a].toNat : Int) != 108) = true := by rw [bne_iff_ne]; omega
  have q3 : ((s[a].toNat : Int) == 105) = false := by rw [beq_eq_false_iff_ne]; omega
  have q4 : ((s[a].toNat : Int) == 108) = false := by rw [beq_eq_false_iff_ne]; omega
  have q5 : (48 : Int) ≤ (s[a].toNat : Int) := by omega
  have q6 : (s[a].toNat : Int) ≤ 57 := by omega
  have q7 : (x1 : Int) ≤ (s.size : Int) - (y2 : Int) := by omega
  have q8 : (y2 : Int) ≤ (s.size : Int) := by omega
  have q9 : (x1 : Int) ≤ 131072 := by omega
  have q10 : (s.size : Int) ≤ 131072 := by omega
  clear h h2 hb
  go_enter Tryd.func33, Tryd.ntmps33
  go_wp2_with fail
  go_quiet (fail)
  go_wp2_with fail
  go_quiet (fail)
  go_wp2_with fail
  refine (digits_any r s a ((m + 1 : Nat) : Int) 131072 _ (((H.out.alloc _).drewN _).setMany _) (by unfold maxLen; omega) (by omega) (by decide) (by decide) _ hx).mono ?_
  rintro e w1 ⟨rfl, hr1, hg1⟩
  have HF1 : Hid (Four w1 w.heap.size 42 (.int .i64 0) (.int .i64 0) (.string ⟨#[]⟩) (.slice none 0 0)) := Lib.hid (((Four.new w _ _ _ _ _).drewN _).kept (grown_trans (grown_setCell _ _ _ _) hg1) (by have := H.out.lt; simp; omega))
  have HR1 := Lib.hid hr1
  have HG1 : Hid (w.grownBy w1 (some r)) := Lib.hid (grown_trans (World.grownBy_alloc w _ _) (grown_drew_l (grown_trans (grown_setCell _ _ _ _) hg1)))
  clear hr1 hg1 c0 c1 c2 f1 f2
  have hmust := must_any r s x3 ((m + 1 : Nat) : Int) 58 w1 HR1.out (by unfold maxLen; omega) _ hy
  go_wp2_with fail
  refine hmust.mono ?_
  clear hmust
  rintro e w9 ⟨rfl, hr1, hg1⟩
  have d0 := hr1.c0
  have d1 := hr1.c1
  have k1 := hr1.free 1 (by decide)
  have HF7 : Hid (Four w9 w.heap.size 42 (.int .i64 0) (.int .i64 0) (.string ⟨#[]⟩) (.slice none 0 0)) := Lib.hid (HF1.out.kept hg1 (by have := H.out.lt; simp; omega))
  have HR7 := Lib.hid hr1
  have HG7 : Hid (w.grownBy w9 (some r)) := Lib.hid (grown_trans HG1.out hg1)
  clear hr1 hg1 HF1 HR1 HG1
  go_wp2_with fail
  go_quiet (fail)
  go_wp2_with fail
  clear d0 d1 k1
  have HF8 : Hid (Four (w9.drewN nq) w.heap.size 42 (.int .i64 0) (.int .i64 0) (.string ⟨#[]⟩) (.slice none 0 0)) := Lib.hid (HF7.out.drewN _)
  have HR8 := Lib.hid (HR7.out.drewN nq)
  have HG8 : Hid (w.grownBy (w9.drewN nq) (some r)) := Lib.hid (grown_drewN HG7.out _)
  clear HF7 HR7 HG7
  generalize w9.drewN nq = w8 at *
  have d0 := HR8.out.c0
  have d1 := HR8.out.c1
  have k1 := HR8.out.free 1 (by decide)
  have hr9 := HR8.out.alloc (.cells #[.int .i64 0, .int .i64 0, .string ⟨#[]⟩, .slice none 0 0] 42)
  have l0 := hr9.c0
  have l1 := hr9.c1
  clear hr9
  go_region
  have hg9 : ∀ row, w8.grownBy (w8.alloc (.cells #[.int .i64 2, .int .i64 0, .string (s.extract y2 (y2 + x1)), .slice none 0 0] 42)).drew row := by
    intro row
    have h := World.grownBy_alloc w8 (.cells #[.int .i64 2, .int .i64 0, .string (s.extract y2 (y2 + x1)), .slice none 0 0] 42) row
    exact ⟨h.os, h.tape, h.output, h.size, h.block⟩
  have HB9 : Hid (Four (w8.alloc (.cells #[.int .i64 2, .int .i64 0, .string (s.extract y2 (y2 + x1)), .slice none 0 0] 42)).drew w8.heap.size 42 (.int .i64 2) (.int .i64 0) (.string (s.extract y2 (y2 + x1))) (.slice none 0 0)) := Lib.hid (Four.new w8 _ _ _ _ _)
  clear d0 d1 k1 l0 l1
  generalize (w8.alloc (.cells #[.int .i64 2, .int .i64 0, .string (s.extract y2 (y2 + x1)), .slice none 0 0] 42)).drew = w7 at *
  have HF9 := Lib.hid (HF8.out.kept (hg9 none) (by simp))
  have hr9 := HR8.out.kept (hg9 none) (by simp)
  have HG9 := Lib.hid (grown_trans HG8.out (hg9 (some r)))
  have d0 := hr9.c0
  have d1 := hr9.c1
  have k1 := hr9.free 1 (by decide)
  have HR9 := Lib.hid hr9
  have p0 := HB9.out.c0
  have p1 := HB9.out.c1
  have p2 := HB9.out.c2
  have p3 := HB9.out.c3
  have hb8 : w8.heap.size ≠ r := by have := HR8.out.lt; omega
  have hb9 : w.heap.size ≠ w8.heap.size := by have := lt_of_block HF8.out; omega
  have hbr : w.heap.size ≠ r := by have := H.out.lt; omega
  clear hr9 hg9 HF8 HR8 HG8
  have b0 := HF9.out.c0
  have b1 := HF9.out.c1
  have b2 := HF9.out.c2
  have b3 := HF9.out.c3
  have g0 := HF9.out.free 0
  have g1 := HF9.out.free 1
  have g2 := HF9.out.free 2
  have g3 := HF9.out.free 3
  (try simp only [Exit.then])
  go_wp2_with fail
  have HF : Hid (Four (w7.setCell ⟨r, 1, none⟩ (.int .i64 ((y2 : Int) + (x1 : Int)))) w.heap.size 42 (.int .i64 0) (.int .i64 0) (.string ⟨#[]⟩) (.slice none 0 0)) := Lib.hid (HF9.out.kept (grown_setCell _ r 1 _) (by simp; omega))
  have HR : Hid (RdAt (w7.setCell ⟨r, 1, none⟩ (.int .i64 ((y2 : Int) + (x1 : Int)))) r s ((y2 + x1 : Nat) : Int) ((m + 1 : Nat) : Int) 0) := Lib.hid (by rw [show ((y2 + x1 : Nat) : Int) = (y2 : Int) + (x1 : Int) by omega]; exact HR9.out.setAt _)
  have HG : Hid (w.grownBy (w7.setCell ⟨r, 1, none⟩ (.int .i64 ((y2 : Int) + (x1 : Int)))) (some r)) := Lib.hid (grown_trans HG9.out (grown_setCell _ r 1 _))
  clear HF9 HR9 HG9 d0 d1 k1 p0 p1 p2 p3 HB9
  generalize (w7.setCell ⟨r, 1, none⟩ (.int .i64 ((y2 : Int) + (x1 : Int)))) = w9 at *
  have HF2 := HF.out.all (.int .i64 2) (.int .i64 0) (.string (s.extract y2 (y2 + x1))) (.slice none 0 0)
  have hgf := grown_four w9 w.heap.size (.int .i64 2) (.int .i64 0) (.string (s.extract y2 (y2 + x1))) (.slice none 0 0)
  clear b0 b1 b2 b3 g0 g1 g2 g3
  generalize ((((w9.setCell ⟨w.heap.size, 0, none⟩ (.int .i64 2)).setCell ⟨w.heap.size, 1, none⟩ (.int .i64 0)).setCell ⟨w.heap.size, 2, none⟩ (.string (s.extract y2 (y2 + x1)))).setCell ⟨w.heap.size, 3, none⟩ (.slice none 0 0)) = w10 at *
  have e0 := HF2.c0
  have e1 := HF2.c1
  have e2 := HF2.c2
  have e3 := HF2.c3
  (try simp only [Exit.inBlock, Exit.then])
  refine bodyPost_ret (v := .tuple #[.agg #[.int .i64 2, .int .i64 0, .string (s.extract y2 (y2 + x1)), .slice none 0 0], .bool true]) ?_ rfl ?_
  · rw [results_cell_tmp rfl]; go_simp
  · exact ⟨_, rfl, textV_at _ _ _, HR.out.kept hgf (by have := H.out.lt; simp; omega), grown_fresh HG.out hgf (Nat.le_refl _)⟩
end Go.Proofs.YtdlnabjledhiiaaDoor

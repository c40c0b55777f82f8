/-
  The walk of code.reader's value: a number.
-/
import Derived.Test.YtdlnabjledhiiaaDoorCvVal
namespace Go.Proofs.YtdlnabjledhiiaaDoor
open Go.RowKit
set_option linter.unusedVariables false

theorem numV_at (w : World) (S : Nat → Prop) (n : Int) : V.At w S (.mk 1 n ⟨#[]⟩ []) [.int .i64 1, .int .i64 n, .string ⟨#[]⟩, .slice none 0 0] := by
  simp only [V.At]
  exact ⟨none, 0, rfl, Nat.le_refl _, fun _ => rfl, by simp only [VAll]⟩
set_option maxRecDepth 20000 in
set_option maxHeartbeats 4000000 in
theorem value_number_x (r : Nat) (s : ByteArray) (k : Int) (a m : Nat) (w : World) (h : RdAt w r s a m 0) (hs : s.size ≤ 131072) (h1 : a < s.size) (hb : s[a] = 105) (hk : k < 30) (hm : m < 4000) (x1 : Int) (x2 : Bool) (x3 : Nat) (x4 : Int) (hx : Hid ((x1, x2, x3, x4) = numberL s (a + 1))) :
    Calls Tryd.prog 33 #[.pointer (some ⟨r, 0, none⟩), .int .i64 k] w (ValPost r s w ⟨.mk 1 x1 ⟨#[]⟩ [], x2, x3, m + 1, x4⟩) := by
  have H := Lib.hid h
  have h2 := h.alloc (.cells #[.int .i64 0, .int .i64 0, .string ⟨#[]⟩, .slice none 0 0] 42)
  have c0 := h2.c0
  have c1 := h2.c1
  have c2 := h2.c2
  have f1 := h2.free 1 (by decide)
  have f2 := h2.free 2 (by decide)
  have hmi : (m : Int) < 4000 := by omega
  have hi : (a : Int) < (s.size : Int) := by omega
  have q1 : ((s[a].toNat : Int) != 105) = false := by rw [hb]; rfl
  have q2 : ((s[a].toNat : Int) == 105) = true := by rw [hb]; rfl
  clear h h2 hb
  go_enter Tryd.func33, Tryd.ntmps33
  go_wp2_with fail
  go_quiet (fail)
  go_wp2_with fail
  go_quiet (fail)
  go_wp2_with fail
  refine (number_any r s (a + 1) ((m + 1 : Nat) : Int) _ ?hr ?hs ?ha _ hx).mono ?_
  case hs => unfold maxLen; omega
  case ha => omega
  case hr => exact (((H.out.alloc _).drewN _).setMany _).setAt _
  rintro e w1 ⟨rfl, hr1, hg1⟩
  have HF : Hid (Four w1 w.heap.size 42 (.int .i64 0) (.int .i64 0) (.string ⟨#[]⟩) (.slice none 0 0)) := Lib.hid (((Four.new w _ _ _ _ _).drewN _).kept (grown_trans (grown_trans (grown_setCell _ _ _ _) (grown_setCell _ _ _ _)) hg1) (by have := H.out.lt; simp; omega))
  have HR := Lib.hid hr1
  have HG : Hid (w.grownBy w1 (some r)) := Lib.hid (grown_trans (World.grownBy_alloc w _ _) (grown_drew_l (grown_trans (grown_trans (grown_setCell _ _ _ _) (grown_setCell _ _ _ _)) hg1)))
  have b0 := HF.out.c0
  have b1 := HF.out.c1
  have b2 := HF.out.c2
  have b3 := HF.out.c3
  have g0 := HF.out.free 0
  have g1 := HF.out.free 1
  have g2 := HF.out.free 2
  have g3 := HF.out.free 3
  clear hr1 hg1
  go_wp2_with fail
  have HF2 := HF.out.all (.int .i64 1) (.int .i64 x1) (.string ⟨#[]⟩) (.slice none 0 0)
  have hgf := grown_four w1 w.heap.size (.int .i64 1) (.int .i64 x1) (.string ⟨#[]⟩) (.slice none 0 0)
  clear b0 b1 b2 b3 g0 g1 g2 g3
  generalize ((((w1.setCell ⟨w.heap.size, 0, none⟩ (.int .i64 1)).setCell ⟨w.heap.size, 1, none⟩ (.int .i64 x1)).setCell ⟨w.heap.size, 2, none⟩ (.string ⟨#[]⟩)).setCell ⟨w.heap.size, 3, none⟩ (.slice none 0 0)) = w2 at *
  have e0 := HF2.c0
  have e1 := HF2.c1
  have e2 := HF2.c2
  have e3 := HF2.c3
  (try simp only [Exit.inBlock, Exit.then])
  refine bodyPost_ret (v := .tuple #[.agg #[.int .i64 1, .int .i64 x1, .string ⟨#[]⟩, .slice none 0 0], .bool x2]) ?_ rfl ?_
  · rw [results_cell_tmp rfl]; go_simp
  · exact ⟨_, rfl, numV_at _ _ _, HR.out.kept hgf (by have := H.out.lt; simp; omega), grown_fresh HG.out hgf (Nat.le_refl _)⟩
theorem value_number (r : Nat) (s : ByteArray) (k : Int) (a m : Nat) (w : World) (h : RdAt w r s a m 0) (hs : s.size ≤ 131072) (h1 : a < s.size) (hb : s[a] = 105) (hk : k < 30) (hm : m < 4000) :
    Calls Tryd.prog 33 #[.pointer (some ⟨r, 0, none⟩), .int .i64 k] w (ValPost r s w (rdNumber s (a + 1) (m + 1))) :=
  value_number_x r s k a m w h hs h1 hb hk hm _ _ _ _ (Lib.hid rfl)
end Go.Proofs.YtdlnabjledhiiaaDoor

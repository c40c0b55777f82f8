/-
  The walk of hornbookref01's value: all but the list. (Written by wip/mkrfval.py.)
-/
import Derived.Test.YtdlnabjledhiiaaDoorRfText
namespace Go.Proofs.YtdlnabjledhiiaaDoor
open Go.RowKit
set_option linter.unusedVariables false

set_option maxRecDepth 20000 in
set_option maxHeartbeats 1000000 in
theorem rv_wrong (r : Nat) (s : ByteArray) (k : Int) (a m : Nat) (w : World) (h : RdAt w r s a m 0) (hs : s.size ≤ 131072) (ha : a ≤ s.size) (q : Int) (hq : Hid (q = nowL s a)) (q1 : (q != 105) = true) (q2 : (q != 108) = true) (q4 : Hid (false = (decide (48 ≤ q) && decide (q ≤ 57)))) :
    Calls Tryd.prog 43 #[.pointer (some ⟨r, 0, none⟩), .int .i64 k] w (RfPost r s w (Rd.no a m (wrongL s a))) := by
  have HRLT := Lib.hid h.lt
  have HR1 := h.alloc (.cells #[.int .i64 0, .int .i64 0, .string ⟨#[]⟩, .slice none 0 0] 42)
  have HF1 := Lib.hid (Four.new w 42 (.int .i64 0) (.int .i64 0) (.string ⟨#[]⟩) (.slice none 0 0))
  have HG1 := Lib.hid (World.grownBy_alloc w (.cells #[.int .i64 0, .int .i64 0, .string ⟨#[]⟩, .slice none 0 0] 42) (some r))
  have hnow := Lib.hid (now_any r s a m 0 _ HR1 (by omega) q hq)
  have H1 := Lib.hid HR1
  have hai : (a : Int) ≤ 131072 := by omega
  clear h HR1
  go_enter Tryd.func43, Tryd.ntmps43
  go_wp2_with fail
  refine hnow.out.mono ?_
  rintro e w2 ⟨rfl, n2, rfl⟩
  have HR2 := Lib.hid (H1.out.drewN n2)
  have HF2 : Hid (Four ((w.alloc (.cells #[.int .i64 0, .int .i64 0, .string ⟨#[]⟩, .slice none 0 0] 42)).drewN n2) w.heap.size 42 (.int .i64 0) (.int .i64 0) (.string ⟨#[]⟩) (.slice none 0 0)) := Lib.hid (HF1.out.drewN n2)
  have HG2 := Lib.hid (grown_trans HG1.out (grown_drewN (World.grownBy.refl _ (some r)) n2))
  clear hnow H1 HF1 HG1
  generalize (w.alloc (.cells #[.int .i64 0, .int .i64 0, .string ⟨#[]⟩, .slice none 0 0] 42)).drewN n2 = w2 at *
  have d2 := HR2.out.c2
  have d1 := HR2.out.c1
  have d3 := HR2.out.c3
  have k2 := HR2.out.free 2 (by decide)
  have k3 := HR2.out.free 3 (by decide)
  go_wp2_with fail
  refine (digit_any q w2 _ q4).mono ?_
  rintro e w3 ⟨rfl, rfl⟩
  have HWR := Lib.hid (wrong_any r s a m 0 w3 HR2.out (by omega) (wrongL s a) (Lib.hid rfl))
  clear d1 d2 d3 k2 k3
  go_wp2_with fail
  refine HWR.out.mono ?_
  rintro e w4 ⟨rfl, hr4, hg4⟩
  have HR4 := Lib.hid hr4
  have HG4 := Lib.hid (grown_trans HG2.out hg4)
  have HF4 := Lib.hid (HF2.out.kept hg4 (by have := HRLT.out; simp; omega))
  clear HWR hr4 hg4 HR2 HG2 HF2
  have b0 := HF4.out.c0
  have b1 := HF4.out.c1
  have b2 := HF4.out.c2
  have b3 := HF4.out.c3
  have g0 := HF4.out.free 0
  have g1 := HF4.out.free 1
  have g2 := HF4.out.free 2
  have g3 := HF4.out.free 3
  go_wp2_with fail
  have HF9 := HF4.out.all (.int .i64 0) (.int .i64 0) (.string ⟨#[]⟩) (.slice none 0 0)
  have hgf := grown_four w4 w.heap.size (.int .i64 0) (.int .i64 0) (.string ⟨#[]⟩) (.slice none 0 0)
  clear b0 b1 b2 b3 g0 g1 g2 g3 
  generalize ((((w4.setCell ⟨w.heap.size, 0, none⟩ (.int .i64 0)).setCell ⟨w.heap.size, 1, none⟩ (.int .i64 0)).setCell ⟨w.heap.size, 2, none⟩ (.string ⟨#[]⟩)).setCell ⟨w.heap.size, 3, none⟩ (.slice none 0 0)) = w10 at *
  have e0 := HF9.c0
  have e1 := HF9.c1
  have e2 := HF9.c2
  have e3 := HF9.c3
  (try simp only [Exit.inBlock, Exit.then])
  refine bodyPost_ret (v := .agg #[.int .i64 0, .int .i64 0, .string ⟨#[]⟩, .slice none 0 0]) ?_ rfl ?_
  · rw [results_cell_one rfl]; go_simp
  · exact ⟨_, rfl, ⟨zeroV, zeroV_at _ _, fun h => by cases h⟩, HR4.out.kept hgf (by have := HR4.out.lt; have := HRLT.out; simp; omega), grown_fresh HG4.out hgf (Nat.le_refl _)⟩
set_option maxRecDepth 20000 in
set_option maxHeartbeats 1000000 in
theorem rv_deep_i (r : Nat) (s : ByteArray) (k : Int) (a m : Nat) (w : World) (h : RdAt w r s a m 0) (hs : s.size ≤ 131072) (ha : a ≤ s.size) (q : Int) (hq : Hid (q = nowL s a)) (q1 : (q != 105) = false) (q3 : (q == 105) = true) (hk : 30 ≤ k) :
    Calls Tryd.prog 43 #[.pointer (some ⟨r, 0, none⟩), .int .i64 k] w (RfPost r s w (Rd.no a m 12)) := by
  have HRLT := Lib.hid h.lt
  have HR1 := h.alloc (.cells #[.int .i64 0, .int .i64 0, .string ⟨#[]⟩, .slice none 0 0] 42)
  have HF1 := Lib.hid (Four.new w 42 (.int .i64 0) (.int .i64 0) (.string ⟨#[]⟩) (.slice none 0 0))
  have HG1 := Lib.hid (World.grownBy_alloc w (.cells #[.int .i64 0, .int .i64 0, .string ⟨#[]⟩, .slice none 0 0] 42) (some r))
  have hnow := Lib.hid (now_any r s a m 0 _ HR1 (by omega) q hq)
  have H1 := Lib.hid HR1
  have hai : (a : Int) ≤ 131072 := by omega
  clear h HR1
  go_enter Tryd.func43, Tryd.ntmps43
  go_wp2_with fail
  refine hnow.out.mono ?_
  rintro e w2 ⟨rfl, n2, rfl⟩
  have HR2 := Lib.hid (H1.out.drewN n2)
  have HF2 : Hid (Four ((w.alloc (.cells #[.int .i64 0, .int .i64 0, .string ⟨#[]⟩, .slice none 0 0] 42)).drewN n2) w.heap.size 42 (.int .i64 0) (.int .i64 0) (.string ⟨#[]⟩) (.slice none 0 0)) := Lib.hid (HF1.out.drewN n2)
  have HG2 := Lib.hid (grown_trans HG1.out (grown_drewN (World.grownBy.refl _ (some r)) n2))
  clear hnow H1 HF1 HG1
  generalize (w.alloc (.cells #[.int .i64 0, .int .i64 0, .string ⟨#[]⟩, .slice none 0 0] 42)).drewN n2 = w2 at *
  have d2 := HR2.out.c2
  have d1 := HR2.out.c1
  have d3 := HR2.out.c3
  have k2 := HR2.out.free 2 (by decide)
  have k3 := HR2.out.free 3 (by decide)
  have HR4 := Lib.hid (HR2.out.setBad 12)
  have HG4 := Lib.hid (grown_trans HG2.out (grown_setCell w2 r 3 (.int .i64 12)))
  have HF4 := Lib.hid (HF2.out.kept (grown_setCell w2 r 3 (.int .i64 12)) (by have := HRLT.out; simp; omega))
  clear HR2 HG2 HF2
  have b0 := HF4.out.c0
  have b1 := HF4.out.c1
  have b2 := HF4.out.c2
  have b3 := HF4.out.c3
  have g0 := HF4.out.free 0
  have g1 := HF4.out.free 1
  have g2 := HF4.out.free 2
  have g3 := HF4.out.free 3
  go_wp2_with fail
  have HF9 := HF4.out.all (.int .i64 0) (.int .i64 0) (.string ⟨#[]⟩) (.slice none 0 0)
  have hgf := grown_four (w2.setCell ⟨r, 3, none⟩ (.int .i64 12)) w.heap.size (.int .i64 0) (.int .i64 0) (.string ⟨#[]⟩) (.slice none 0 0)
  clear b0 b1 b2 b3 g0 g1 g2 g3 d1 d2 d3 k2 k3
  generalize (((((w2.setCell ⟨r, 3, none⟩ (.int .i64 12)).setCell ⟨w.heap.size, 0, none⟩ (.int .i64 0)).setCell ⟨w.heap.size, 1, none⟩ (.int .i64 0)).setCell ⟨w.heap.size, 2, none⟩ (.string ⟨#[]⟩)).setCell ⟨w.heap.size, 3, none⟩ (.slice none 0 0)) = w10 at *
  have e0 := HF9.c0
  have e1 := HF9.c1
  have e2 := HF9.c2
  have e3 := HF9.c3
  (try simp only [Exit.inBlock, Exit.then])
  refine bodyPost_ret (v := .agg #[.int .i64 0, .int .i64 0, .string ⟨#[]⟩, .slice none 0 0]) ?_ rfl ?_
  · rw [results_cell_one rfl]; go_simp
  · exact ⟨_, rfl, ⟨zeroV, zeroV_at _ _, fun h => by cases h⟩, HR4.out.kept hgf (by have := HR4.out.lt; have := HRLT.out; simp; omega), grown_fresh HG4.out hgf (Nat.le_refl _)⟩
set_option maxRecDepth 20000 in
set_option maxHeartbeats 1000000 in
theorem rv_long_i (r : Nat) (s : ByteArray) (k : Int) (a m : Nat) (w : World) (h : RdAt w r s a m 0) (hs : s.size ≤ 131072) (ha : a ≤ s.size) (q : Int) (hq : Hid (q = nowL s a)) (q1 : (q != 105) = false) (q3 : (q == 105) = true) (hk : k < 30) (hm : (4000 : Int) ≤ (m : Int)) :
    Calls Tryd.prog 43 #[.pointer (some ⟨r, 0, none⟩), .int .i64 k] w (RfPost r s w (Rd.no a m 2)) := by
  have HRLT := Lib.hid h.lt
  have HR1 := h.alloc (.cells #[.int .i64 0, .int .i64 0, .string ⟨#[]⟩, .slice none 0 0] 42)
  have HF1 := Lib.hid (Four.new w 42 (.int .i64 0) (.int .i64 0) (.string ⟨#[]⟩) (.slice none 0 0))
  have HG1 := Lib.hid (World.grownBy_alloc w (.cells #[.int .i64 0, .int .i64 0, .string ⟨#[]⟩, .slice none 0 0] 42) (some r))
  have hnow := Lib.hid (now_any r s a m 0 _ HR1 (by omega) q hq)
  have H1 := Lib.hid HR1
  have hai : (a : Int) ≤ 131072 := by omega
  clear h HR1
  go_enter Tryd.func43, Tryd.ntmps43
  go_wp2_with fail
  refine hnow.out.mono ?_
  rintro e w2 ⟨rfl, n2, rfl⟩
  have HR2 := Lib.hid (H1.out.drewN n2)
  have HF2 : Hid (Four ((w.alloc (.cells #[.int .i64 0, .int .i64 0, .string ⟨#[]⟩, .slice none 0 0] 42)).drewN n2) w.heap.size 42 (.int .i64 0) (.int .i64 0) (.string ⟨#[]⟩) (.slice none 0 0)) := Lib.hid (HF1.out.drewN n2)
  have HG2 := Lib.hid (grown_trans HG1.out (grown_drewN (World.grownBy.refl _ (some r)) n2))
  clear hnow H1 HF1 HG1
  generalize (w.alloc (.cells #[.int .i64 0, .int .i64 0, .string ⟨#[]⟩, .slice none 0 0] 42)).drewN n2 = w2 at *
  have d2 := HR2.out.c2
  have d1 := HR2.out.c1
  have d3 := HR2.out.c3
  have k2 := HR2.out.free 2 (by decide)
  have k3 := HR2.out.free 3 (by decide)
  have HR4 := Lib.hid (HR2.out.setBad 2)
  have HG4 := Lib.hid (grown_trans HG2.out (grown_setCell w2 r 3 (.int .i64 2)))
  have HF4 := Lib.hid (HF2.out.kept (grown_setCell w2 r 3 (.int .i64 2)) (by have := HRLT.out; simp; omega))
  clear HR2 HG2 HF2
  have b0 := HF4.out.c0
  have b1 := HF4.out.c1
  have b2 := HF4.out.c2
  have b3 := HF4.out.c3
  have g0 := HF4.out.free 0
  have g1 := HF4.out.free 1
  have g2 := HF4.out.free 2
  have g3 := HF4.out.free 3
  go_wp2_with fail
  have HF9 := HF4.out.all (.int .i64 0) (.int .i64 0) (.string ⟨#[]⟩) (.slice none 0 0)
  have hgf := grown_four (w2.setCell ⟨r, 3, none⟩ (.int .i64 2)) w.heap.size (.int .i64 0) (.int .i64 0) (.string ⟨#[]⟩) (.slice none 0 0)
  clear b0 b1 b2 b3 g0 g1 g2 g3 d1 d2 d3 k2 k3
  generalize (((((w2.setCell ⟨r, 3, none⟩ (.int .i64 2)).setCell ⟨w.heap.size, 0, none⟩ (.int .i64 0)).setCell ⟨w.heap.size, 1, none⟩ (.int .i64 0)).setCell ⟨w.heap.size, 2, none⟩ (.string ⟨#[]⟩)).setCell ⟨w.heap.size, 3, none⟩ (.slice none 0 0)) = w10 at *
  have e0 := HF9.c0
  have e1 := HF9.c1
  have e2 := HF9.c2
  have e3 := HF9.c3
  (try simp only [Exit.inBlock, Exit.then])
  refine bodyPost_ret (v := .agg #[.int .i64 0, .int .i64 0, .string ⟨#[]⟩, .slice none 0 0]) ?_ rfl ?_
  · rw [results_cell_one rfl]; go_simp
  · exact ⟨_, rfl, ⟨zeroV, zeroV_at _ _, fun h => by cases h⟩, HR4.out.kept hgf (by have := HR4.out.lt; have := HRLT.out; simp; omega), grown_fresh HG4.out hgf (Nat.le_refl _)⟩
set_option maxRecDepth 20000 in
set_option maxHeartbeats 1000000 in
theorem rv_deep_l (r : Nat) (s : ByteArray) (k : Int) (a m : Nat) (w : World) (h : RdAt w r s a m 0) (hs : s.size ≤ 131072) (ha : a ≤ s.size) (q : Int) (hq : Hid (q = nowL s a)) (q1 : (q != 105) = true) (q2 : (q != 108) = false) (q3 : (q == 105) = false) (hk : 30 ≤ k) :
    Calls Tryd.prog 43 #[.pointer (some ⟨r, 0, none⟩), .int .i64 k] w (RfPost r s w (Rd.no a m 12)) := by
  have HRLT := Lib.hid h.lt
  have HR1 := h.alloc (.cells #[.int .i64 0, .int .i64 0, .string ⟨#[]⟩, .slice none 0 0] 42)
  have HF1 := Lib.hid (Four.new w 42 (.int .i64 0) (.int .i64 0) (.string ⟨#[]⟩) (.slice none 0 0))
  have HG1 := Lib.hid (World.grownBy_alloc w (.cells #[.int .i64 0, .int .i64 0, .string ⟨#[]⟩, .slice none 0 0] 42) (some r))
  have hnow := Lib.hid (now_any r s a m 0 _ HR1 (by omega) q hq)
  have H1 := Lib.hid HR1
  have hai : (a : Int) ≤ 131072 := by omega
  clear h HR1
  go_enter Tryd.func43, Tryd.ntmps43
  go_wp2_with fail
  refine hnow.out.mono ?_
  rintro e w2 ⟨rfl, n2, rfl⟩
  have HR2 := Lib.hid (H1.out.drewN n2)
  have HF2 : Hid (Four ((w.alloc (.cells #[.int .i64 0, .int .i64 0, .string ⟨#[]⟩, .slice none 0 0] 42)).drewN n2) w.heap.size 42 (.int .i64 0) (.int .i64 0) (.string ⟨#[]⟩) (.slice none 0 0)) := Lib.hid (HF1.out.drewN n2)
  have HG2 := Lib.hid (grown_trans HG1.out (grown_drewN (World.grownBy.refl _ (some r)) n2))
  clear hnow H1 HF1 HG1
  generalize (w.alloc (.cells #[.int .i64 0, .int .i64 0, .string ⟨#[]⟩, .slice none 0 0] 42)).drewN n2 = w2 at *
  have d2 := HR2.out.c2
  have d1 := HR2.out.c1
  have d3 := HR2.out.c3
  have k2 := HR2.out.free 2 (by decide)
  have k3 := HR2.out.free 3 (by decide)
  have HR4 := Lib.hid (HR2.out.setBad 12)
  have HG4 := Lib.hid (grown_trans HG2.out (grown_setCell w2 r 3 (.int .i64 12)))
  have HF4 := Lib.hid (HF2.out.kept (grown_setCell w2 r 3 (.int .i64 12)) (by have := HRLT.out; simp; omega))
  clear HR2 HG2 HF2
  have b0 := HF4.out.c0
  have b1 := HF4.out.c1
  have b2 := HF4.out.c2
  have b3 := HF4.out.c3
  have g0 := HF4.out.free 0
  have g1 := HF4.out.free 1
  have g2 := HF4.out.free 2
  have g3 := HF4.out.free 3
  go_wp2_with fail
  have HF9 := HF4.out.all (.int .i64 0) (.int .i64 0) (.string ⟨#[]⟩) (.slice none 0 0)
  have hgf := grown_four (w2.setCell ⟨r, 3, none⟩ (.int .i64 12)) w.heap.size (.int .i64 0) (.int .i64 0) (.string ⟨#[]⟩) (.slice none 0 0)
  clear b0 b1 b2 b3 g0 g1 g2 g3 d1 d2 d3 k2 k3
  generalize (((((w2.setCell ⟨r, 3, none⟩ (.int .i64 12)).setCell ⟨w.heap.size, 0, none⟩ (.int .i64 0)).setCell ⟨w.heap.size, 1, none⟩ (.int .i64 0)).setCell ⟨w.heap.size, 2, none⟩ (.string ⟨#[]⟩)).setCell ⟨w.heap.size, 3, none⟩ (.slice none 0 0)) = w10 at *
  have e0 := HF9.c0
  have e1 := HF9.c1
  have e2 := HF9.c2
  have e3 := HF9.c3
  (try simp only [Exit.inBlock, Exit.then])
  refine bodyPost_ret (v := .agg #[.int .i64 0, .int .i64 0, .string ⟨#[]⟩, .slice none 0 0]) ?_ rfl ?_
  · rw [results_cell_one rfl]; go_simp
  · exact ⟨_, rfl, ⟨zeroV, zeroV_at _ _, fun h => by cases h⟩, HR4.out.kept hgf (by have := HR4.out.lt; have := HRLT.out; simp; omega), grown_fresh HG4.out hgf (Nat.le_refl _)⟩
set_option maxRecDepth 20000 in
set_option maxHeartbeats 1000000 in
theorem rv_long_l (r : Nat) (s : ByteArray) (k : Int) (a m : Nat) (w : World) (h : RdAt w r s a m 0) (hs : s.size ≤ 131072) (ha : a ≤ s.size) (q : Int) (hq : Hid (q = nowL s a)) (q1 : (q != 105) = true) (q2 : (q != 108) = false) (q3 : (q == 105) = false) (hk : k < 30) (hm : (4000 : Int) ≤ (m : Int)) :
    Calls Tryd.prog 43 #[.pointer (some ⟨r, 0, none⟩), .int .i64 k] w (RfPost r s w (Rd.no a m 2)) := by
  have HRLT := Lib.hid h.lt
  have HR1 := h.alloc (.cells #[.int .i64 0, .int .i64 0, .string ⟨#[]⟩, .slice none 0 0] 42)
  have HF1 := Lib.hid (Four.new w 42 (.int .i64 0) (.int .i64 0) (.string ⟨#[]⟩) (.slice none 0 0))
  have HG1 := Lib.hid (World.grownBy_alloc w (.cells #[.int .i64 0, .int .i64 0, .string ⟨#[]⟩, .slice none 0 0] 42) (some r))
  have hnow := Lib.hid (now_any r s a m 0 _ HR1 (by omega) q hq)
  have H1 := Lib.hid HR1
  have hai : (a : Int) ≤ 131072 := by omega
  clear h HR1
  go_enter Tryd.func43, Tryd.ntmps43
  go_wp2_with fail
  refine hnow.out.mono ?_
  rintro e w2 ⟨rfl, n2, rfl⟩
  have HR2 := Lib.hid (H1.out.drewN n2)
  have HF2 : Hid (Four ((w.alloc (.cells #[.int .i64 0, .int .i64 0, .string ⟨#[]⟩, .slice none 0 0] 42)).drewN n2) w.heap.size 42 (.int .i64 0) (.int .i64 0) (.string ⟨#[]⟩) (.slice none 0 0)) := Lib.hid (HF1.out.drewN n2)
  have HG2 := Lib.hid (grown_trans HG1.out (grown_drewN (World.grownBy.refl _ (some r)) n2))
  clear hnow H1 HF1 HG1
  generalize (w.alloc (.cells #[.int .i64 0, .int .i64 0, .string ⟨#[]⟩, .slice none 0 0] 42)).drewN n2 = w2 at *
  have d2 := HR2.out.c2
  have d1 := HR2.out.c1
  have d3 := HR2.out.c3
  have k2 := HR2.out.free 2 (by decide)
  have k3 := HR2.out.free 3 (by decide)
  have HR4 := Lib.hid (HR2.out.setBad 2)
  have HG4 := Lib.hid (grown_trans HG2.out (grown_setCell w2 r 3 (.int .i64 2)))
  have HF4 := Lib.hid (HF2.out.kept (grown_setCell w2 r 3 (.int .i64 2)) (by have := HRLT.out; simp; omega))
  clear HR2 HG2 HF2
  have b0 := HF4.out.c0
  have b1 := HF4.out.c1
  have b2 := HF4.out.c2
  have b3 := HF4.out.c3
  have g0 := HF4.out.free 0
  have g1 := HF4.out.free 1
  have g2 := HF4.out.free 2
  have g3 := HF4.out.free 3
  go_wp2_with fail
  have HF9 := HF4.out.all (.int .i64 0) (.int .i64 0) (.string ⟨#[]⟩) (.slice none 0 0)
  have hgf := grown_four (w2.setCell ⟨r, 3, none⟩ (.int .i64 2)) w.heap.size (.int .i64 0) (.int .i64 0) (.string ⟨#[]⟩) (.slice none 0 0)
  clear b0 b1 b2 b3 g0 g1 g2 g3 d1 d2 d3 k2 k3
  generalize (((((w2.setCell ⟨r, 3, none⟩ (.int .i64 2)).setCell ⟨w.heap.size, 0, none⟩ (.int .i64 0)).setCell ⟨w.heap.size, 1, none⟩ (.int .i64 0)).setCell ⟨w.heap.size, 2, none⟩ (.string ⟨#[]⟩)).setCell ⟨w.heap.size, 3, none⟩ (.slice none 0 0)) = w10 at *
  have e0 := HF9.c0
  have e1 := HF9.c1
  have e2 := HF9.c2
  have e3 := HF9.c3
  (try simp only [Exit.inBlock, Exit.then])
  refine bodyPost_ret (v := .agg #[.int .i64 0, .int .i64 0, .string ⟨#[]⟩, .slice none 0 0]) ?_ rfl ?_
  · rw [results_cell_one rfl]; go_simp
  · exact ⟨_, rfl, ⟨zeroV, zeroV_at _ _, fun h => by cases h⟩, HR4.out.kept hgf (by have := HR4.out.lt; have := HRLT.out; simp; omega), grown_fresh HG4.out hgf (Nat.le_refl _)⟩
set_option maxRecDepth 20000 in
set_option maxHeartbeats 1000000 in
theorem rv_deep_d (r : Nat) (s : ByteArray) (k : Int) (a m : Nat) (w : World) (h : RdAt w r s a m 0) (hs : s.size ≤ 131072) (ha : a ≤ s.size) (q : Int) (hq : Hid (q = nowL s a)) (q1 : (q != 105) = true) (q2 : (q != 108) = true) (q3 : (q == 105) = false) (q4 : Hid (true = (decide (48 ≤ q) && decide (q ≤ 57)))) (hk : 30 ≤ k) :
    Calls Tryd.prog 43 #[.pointer (some ⟨r, 0, none⟩), .int .i64 k] w (RfPost r s w (Rd.no a m 12)) := by
  have HRLT := Lib.hid h.lt
  have HR1 := h.alloc (.cells #[.int .i64 0, .int .i64 0, .string ⟨#[]⟩, .slice none 0 0] 42)
  have HF1 := Lib.hid (Four.new w 42 (.int .i64 0) (.int .i64 0) (.string ⟨#[]⟩) (.slice none 0 0))
  have HG1 := Lib.hid (World.grownBy_alloc w (.cells #[.int .i64 0, .int .i64 0, .string ⟨#[]⟩, .slice none 0 0] 42) (some r))
  have hnow := Lib.hid (now_any r s a m 0 _ HR1 (by omega) q hq)
  have H1 := Lib.hid HR1
  have hai : (a : Int) ≤ 131072 := by omega
  clear h HR1
  go_enter Tryd.func43, Tryd.ntmps43
  go_wp2_with fail
  refine hnow.out.mono ?_
  rintro e w2 ⟨rfl, n2, rfl⟩
  have HR2 := Lib.hid (H1.out.drewN n2)
  have HF2 : Hid (Four ((w.alloc (.cells #[.int .i64 0, .int .i64 0, .string ⟨#[]⟩, .slice none 0 0] 42)).drewN n2) w.heap.size 42 (.int .i64 0) (.int .i64 0) (.string ⟨#[]⟩) (.slice none 0 0)) := Lib.hid (HF1.out.drewN n2)
  have HG2 := Lib.hid (grown_trans HG1.out (grown_drewN (World.grownBy.refl _ (some r)) n2))
  clear hnow H1 HF1 HG1
  generalize (w.alloc (.cells #[.int .i64 0, .int .i64 0, .string ⟨#[]⟩, .slice none 0 0] 42)).drewN n2 = w2 at *
  have d2 := HR2.out.c2
  have d1 := HR2.out.c1
  have d3 := HR2.out.c3
  have k2 := HR2.out.free 2 (by decide)
  have k3 := HR2.out.free 3 (by decide)
  go_wp2_with fail
  refine (digit_any q w2 _ q4).mono ?_
  rintro e w3 ⟨rfl, rfl⟩
  have HR4 := Lib.hid (HR2.out.setBad 12)
  have HG4 := Lib.hid (grown_trans HG2.out (grown_setCell w3 r 3 (.int .i64 12)))
  have HF4 := Lib.hid (HF2.out.kept (grown_setCell w3 r 3 (.int .i64 12)) (by have := HRLT.out; simp; omega))
  clear HR2 HG2 HF2
  have b0 := HF4.out.c0
  have b1 := HF4.out.c1
  have b2 := HF4.out.c2
  have b3 := HF4.out.c3
  have g0 := HF4.out.free 0
  have g1 := HF4.out.free 1
  have g2 := HF4.out.free 2
  have g3 := HF4.out.free 3
  go_wp2_with fail
  have HF9 := HF4.out.all (.int .i64 0) (.int .i64 0) (.string ⟨#[]⟩) (.slice none 0 0)
  have hgf := grown_four (w3.setCell ⟨r, 3, none⟩ (.int .i64 12)) w.heap.size (.int .i64 0) (.int .i64 0) (.string ⟨#[]⟩) (.slice none 0 0)
  clear b0 b1 b2 b3 g0 g1 g2 g3 d1 d2 d3 k2 k3
  generalize (((((w3.setCell ⟨r, 3, none⟩ (.int .i64 12)).setCell ⟨w.heap.size, 0, none⟩ (.int .i64 0)).setCell ⟨w.heap.size, 1, none⟩ (.int .i64 0)).setCell ⟨w.heap.size, 2, none⟩ (.string ⟨#[]⟩)).setCell ⟨w.heap.size, 3, none⟩ (.slice none 0 0)) = w10 at *
  have e0 := HF9.c0
  have e1 := HF9.c1
  have e2 := HF9.c2
  have e3 := HF9.c3
  (try simp only [Exit.inBlock, Exit.then])
  refine bodyPost_ret (v := .agg #[.int .i64 0, .int .i64 0, .string ⟨#[]⟩, .slice none 0 0]) ?_ rfl ?_
  · rw [results_cell_one rfl]; go_simp
  · exact ⟨_, rfl, ⟨zeroV, zeroV_at _ _, fun h => by cases h⟩, HR4.out.kept hgf (by have := HR4.out.lt; have := HRLT.out; simp; omega), grown_fresh HG4.out hgf (Nat.le_refl _)⟩
set_option maxRecDepth 20000 in
set_option maxHeartbeats 1000000 in
theorem rv_long_d (r : Nat) (s : ByteArray) (k : Int) (a m : Nat) (w : World) (h : RdAt w r s a m 0) (hs : s.size ≤ 131072) (ha : a ≤ s.size) (q : Int) (hq : Hid (q = nowL s a)) (q1 : (q != 105) = true) (q2 : (q != 108) = true) (q3 : (q == 105) = false) (q4 : Hid (true = (decide (48 ≤ q) && decide (q ≤ 57)))) (hk : k < 30) (hm : (4000 : Int) ≤ (m : Int)) :
    Calls Tryd.prog 43 #[.pointer (some ⟨r, 0, none⟩), .int .i64 k] w (RfPost r s w (Rd.no a m 2)) := by
  have HRLT := Lib.hid h.lt
  have HR1 := h.alloc (.cells #[.int .i64 0, .int .i64 0, .string ⟨#[]⟩, .slice none 0 0] 42)
  have HF1 := Lib.hid (Four.new w 42 (.int .i64 0) (.int .i64 0) (.string ⟨#[]⟩) (.slice none 0 0))
  have HG1 := Lib.hid (World.grownBy_alloc w (.cells #[.int .i64 0, .int .i64 0, .string ⟨#[]⟩, .slice none 0 0] 42) (some r))
  have hnow := Lib.hid (now_any r s a m 0 _ HR1 (by omega) q hq)
  have H1 := Lib.hid HR1
  have hai : (a : Int) ≤ 131072 := by omega
  clear h HR1
  go_enter Tryd.func43, Tryd.ntmps43
  go_wp2_with fail
  refine hnow.out.mono ?_
  rintro e w2 ⟨rfl, n2, rfl⟩
  have HR2 := Lib.hid (H1.out.drewN n2)
  have HF2 : Hid (Four ((w.alloc (.cells #[.int .i64 0, .int .i64 0, .string ⟨#[]⟩, .slice none 0 0] 42)).drewN n2) w.heap.size 42 (.int .i64 0) (.int .i64 0) (.string ⟨#[]⟩) (.slice none 0 0)) := Lib.hid (HF1.out.drewN n2)
  have HG2 := Lib.hid (grown_trans HG1.out (grown_drewN (World.grownBy.refl _ (some r)) n2))
  clear hnow H1 HF1 HG1
  generalize (w.alloc (.cells #[.int .i64 0, .int .i64 0, .string ⟨#[]⟩, .slice none 0 0] 42)).drewN n2 = w2 at *
  have d2 := HR2.out.c2
  have d1 := HR2.out.c1
  have d3 := HR2.out.c3
  have k2 := HR2.out.free 2 (by decide)
  have k3 := HR2.out.free 3 (by decide)
  go_wp2_with fail
  refine (digit_any q w2 _ q4).mono ?_
  rintro e w3 ⟨rfl, rfl⟩
  have HR4 := Lib.hid (HR2.out.setBad 2)
  have HG4 := Lib.hid (grown_trans HG2.out (grown_setCell w3 r 3 (.int .i64 2)))
  have HF4 := Lib.hid (HF2.out.kept (grown_setCell w3 r 3 (.int .i64 2)) (by have := HRLT.out; simp; omega))
  clear HR2 HG2 HF2
  have b0 := HF4.out.c0
  have b1 := HF4.out.c1
  have b2 := HF4.out.c2
  have b3 := HF4.out.c3
  have g0 := HF4.out.free 0
  have g1 := HF4.out.free 1
  have g2 := HF4.out.free 2
  have g3 := HF4.out.free 3
  go_wp2_with fail
  have HF9 := HF4.out.all (.int .i64 0) (.int .i64 0) (.string ⟨#[]⟩) (.slice none 0 0)
  have hgf := grown_four (w3.setCell ⟨r, 3, none⟩ (.int .i64 2)) w.heap.size (.int .i64 0) (.int .i64 0) (.string ⟨#[]⟩) (.slice none 0 0)
  clear b0 b1 b2 b3 g0 g1 g2 g3 d1 d2 d3 k2 k3
  generalize (((((w3.setCell ⟨r, 3, none⟩ (.int .i64 2)).setCell ⟨w.heap.size, 0, none⟩ (.int .i64 0)).setCell ⟨w.heap.size, 1, none⟩ (.int .i64 0)).setCell ⟨w.heap.size, 2, none⟩ (.string ⟨#[]⟩)).setCell ⟨w.heap.size, 3, none⟩ (.slice none 0 0)) = w10 at *
  have e0 := HF9.c0
  have e1 := HF9.c1
  have e2 := HF9.c2
  have e3 := HF9.c3
  (try simp only [Exit.inBlock, Exit.then])
  refine bodyPost_ret (v := .agg #[.int .i64 0, .int .i64 0, .string ⟨#[]⟩, .slice none 0 0]) ?_ rfl ?_
  · rw [results_cell_one rfl]; go_simp
  · exact ⟨_, rfl, ⟨zeroV, zeroV_at _ _, fun h => by cases h⟩, HR4.out.kept hgf (by have := HR4.out.lt; have := HRLT.out; simp; omega), grown_fresh HG4.out hgf (Nat.le_refl _)⟩
set_option maxRecDepth 20000 in
set_option maxHeartbeats 1000000 in
theorem rv_num (r : Nat) (s : ByteArray) (k : Int) (a m : Nat) (w : World) (h : RdAt w r s a m 0) (hs : s.size ≤ 131072) (ha : a ≤ s.size) (q : Int) (hq : Hid (q = nowL s a)) (q1 : (q != 105) = false) (q3 : (q == 105) = true) (hlt : a < s.size) (hk : k < 30) (hm : (m : Int) < 4000) (x : Rd) (hx : Hid (x = rdNumber s (a + 1) (m + 1))) :
    Calls Tryd.prog 43 #[.pointer (some ⟨r, 0, none⟩), .int .i64 k] w (RfPost r s w x) := by
  have HRLT := Lib.hid h.lt
  have HR1 := h.alloc (.cells #[.int .i64 0, .int .i64 0, .string ⟨#[]⟩, .slice none 0 0] 42)
  have HF1 := Lib.hid (Four.new w 42 (.int .i64 0) (.int .i64 0) (.string ⟨#[]⟩) (.slice none 0 0))
  have HG1 := Lib.hid (World.grownBy_alloc w (.cells #[.int .i64 0, .int .i64 0, .string ⟨#[]⟩, .slice none 0 0] 42) (some r))
  have hnow := Lib.hid (now_any r s a m 0 _ HR1 (by omega) q hq)
  have H1 := Lib.hid HR1
  have hai : (a : Int) ≤ 131072 := by omega
  clear h HR1
  go_enter Tryd.func43, Tryd.ntmps43
  go_wp2_with fail
  refine hnow.out.mono ?_
  rintro e w2 ⟨rfl, n2, rfl⟩
  have HR2 := Lib.hid (H1.out.drewN n2)
  have HF2 : Hid (Four ((w.alloc (.cells #[.int .i64 0, .int .i64 0, .string ⟨#[]⟩, .slice none 0 0] 42)).drewN n2) w.heap.size 42 (.int .i64 0) (.int .i64 0) (.string ⟨#[]⟩) (.slice none 0 0)) := Lib.hid (HF1.out.drewN n2)
  have HG2 := Lib.hid (grown_trans HG1.out (grown_drewN (World.grownBy.refl _ (some r)) n2))
  clear hnow H1 HF1 HG1
  generalize (w.alloc (.cells #[.int .i64 0, .int .i64 0, .string ⟨#[]⟩, .slice none 0 0] 42)).drewN n2 = w2 at *
  have d2 := HR2.out.c2
  have d1 := HR2.out.c1
  have d3 := HR2.out.c3
  have k2 := HR2.out.free 2 (by decide)
  have k3 := HR2.out.free 3 (by decide)
  have HR4 : Hid (RdAt (w2.setCell ⟨r, 2, none⟩ (.int .i64 ((m : Int) + 1))) r s a ((m + 1 : Nat) : Int) 0) := Lib.hid (by rw [Int.natCast_add]; exact HR2.out.setMany _)
  have HG4 := Lib.hid (grown_trans HG2.out (grown_setCell w2 r 2 (.int .i64 ((m : Int) + 1))))
  have HF4 := Lib.hid (HF2.out.kept (grown_setCell w2 r 2 (.int .i64 ((m : Int) + 1))) (by have := HRLT.out; simp; omega))
  have HCALL := Lib.hid (rnumber_any r s a (m + 1) _ HR4.out hs hlt x hx)
  clear HR2 HG2 HF2
  go_wp2_with fail
  refine HCALL.out.mono ?_
  rintro e w5 ⟨cs, rfl, ⟨y, hat, hok⟩, hr5, hg5⟩
  have HR5 := Lib.hid hr5
  have HG5 := Lib.hid (grown_trans HG4.out hg5)
  have HF5 := Lib.hid (HF4.out.kept hg5 (by have := HRLT.out; simp; omega))
  have hs4 := lt_of_block HF4.out
  have HOK := Lib.hid hok
  have HAT := Lib.hid (V.At.move (T := fun b => w.heap.size + 1 ≤ b ∧ b < w5.heap.size) (fun b (hb : _ ∧ _) => ⟨by have := hb.1; omega, hb.2⟩) (fun _ _ => rfl) _ _ hat)
  obtain ⟨yk, yn, ys, yl⟩ := y
  have hat2 := HAT.out
  simp only [V.At] at hat2
  obtain ⟨ya, yc, rfl, -, -, -⟩ := hat2
  generalize hyl : yl.length = ym at *
  have HYL := Lib.hid hyl
  clear HCALL hr5 hg5 hat hok HR4 HG4 HF4 d1 d2 d3 k2 k3 hyl hs4
  have b0 := HF5.out.c0
  have b1 := HF5.out.c1
  have b2 := HF5.out.c2
  have b3 := HF5.out.c3
  have g0 := HF5.out.free 0
  have g1 := HF5.out.free 1
  have g2 := HF5.out.free 2
  have g3 := HF5.out.free 3
  go_wp2_with fail
  have HF9 := HF5.out.all (.int .i64 yk) (.int .i64 yn) (.string ys) (.slice ya ym yc)
  have hgf := grown_four w5 w.heap.size (.int .i64 yk) (.int .i64 yn) (.string ys) (.slice ya ym yc)
  clear b0 b1 b2 b3 g0 g1 g2 g3 
  generalize ((((w5.setCell ⟨w.heap.size, 0, none⟩ (.int .i64 yk)).setCell ⟨w.heap.size, 1, none⟩ (.int .i64 yn)).setCell ⟨w.heap.size, 2, none⟩ (.string ys)).setCell ⟨w.heap.size, 3, none⟩ (.slice ya ym yc)) = w10 at *
  have e0 := HF9.c0
  have e1 := HF9.c1
  have e2 := HF9.c2
  have e3 := HF9.c3
  (try simp only [Exit.inBlock, Exit.then])
  refine bodyPost_ret (v := .agg #[.int .i64 yk, .int .i64 yn, .string ys, .slice ya ym yc]) ?_ rfl ?_
  · rw [results_cell_one rfl]; go_simp
  · exact ⟨_, rfl, ⟨_, V.At.move (fun b (hb : _ ∧ _) => ⟨by have := hb.1; omega, Nat.lt_of_lt_of_le hb.2 hgf.size⟩) (fun b (hb : _ ∧ _) => hgf.block b hb.2 (by have := hb.1; simp; omega)) _ _ HAT.out, HOK.out⟩, HR5.out.kept hgf (by have := HR5.out.lt; have := HRLT.out; simp; omega), grown_fresh HG5.out hgf (Nat.le_refl _)⟩
set_option maxRecDepth 20000 in
set_option maxHeartbeats 1000000 in
theorem rv_text (r : Nat) (s : ByteArray) (k : Int) (a m : Nat) (w : World) (h : RdAt w r s a m 0) (hs : s.size ≤ 131072) (ha : a ≤ s.size) (q : Int) (hq : Hid (q = nowL s a)) (q1 : (q != 105) = true) (q2 : (q != 108) = true) (q3 : (q == 105) = false) (q4 : Hid (true = (decide (48 ≤ q) && decide (q ≤ 57)))) (hlt : a < s.size) (hk : k < 30) (hm : (m : Int) < 4000) (x : Rd) (hx : Hid (x = rdText s a (m + 1))) :
    Calls Tryd.prog 43 #[.pointer (some ⟨r, 0, none⟩), .int .i64 k] w (RfPost r s w x) := by
  have HRLT := Lib.hid h.lt
  have HR1 := h.alloc (.cells #[.int .i64 0, .int .i64 0, .string ⟨#[]⟩, .slice none 0 0] 42)
  have HF1 := Lib.hid (Four.new w 42 (.int .i64 0) (.int .i64 0) (.string ⟨#[]⟩) (.slice none 0 0))
  have HG1 := Lib.hid (World.grownBy_alloc w (.cells #[.int .i64 0, .int .i64 0, .string ⟨#[]⟩, .slice none 0 0] 42) (some r))
  have hnow := Lib.hid (now_any r s a m 0 _ HR1 (by omega) q hq)
  have H1 := Lib.hid HR1
  have hai : (a : Int) ≤ 131072 := by omega
  clear h HR1
  go_enter Tryd.func43, Tryd.ntmps43
  go_wp2_with fail
  refine hnow.out.mono ?_
  rintro e w2 ⟨rfl, n2, rfl⟩
  have HR2 := Lib.hid (H1.out.drewN n2)
  have HF2 : Hid (Four ((w.alloc (.cells #[.int .i64 0, .int .i64 0, .string ⟨#[]⟩, .slice none 0 0] 42)).drewN n2) w.heap.size 42 (.int .i64 0) (.int .i64 0) (.string ⟨#[]⟩) (.slice none 0 0)) := Lib.hid (HF1.out.drewN n2)
  have HG2 := Lib.hid (grown_trans HG1.out (grown_drewN (World.grownBy.refl _ (some r)) n2))
  clear hnow H1 HF1 HG1
  generalize (w.alloc (.cells #[.int .i64 0, .int .i64 0, .string ⟨#[]⟩, .slice none 0 0] 42)).drewN n2 = w2 at *
  have d2 := HR2.out.c2
  have d1 := HR2.out.c1
  have d3 := HR2.out.c3
  have k2 := HR2.out.free 2 (by decide)
  have k3 := HR2.out.free 3 (by decide)
  go_wp2_with fail
  refine (digit_any q w2 _ q4).mono ?_
  rintro e w3 ⟨rfl, rfl⟩
  have HR4 : Hid (RdAt (w3.setCell ⟨r, 2, none⟩ (.int .i64 ((m : Int) + 1))) r s a ((m + 1 : Nat) : Int) 0) := Lib.hid (by rw [Int.natCast_add]; exact HR2.out.setMany _)
  have HG4 := Lib.hid (grown_trans HG2.out (grown_setCell w3 r 2 (.int .i64 ((m : Int) + 1))))
  have HF4 := Lib.hid (HF2.out.kept (grown_setCell w3 r 2 (.int .i64 ((m : Int) + 1))) (by have := HRLT.out; simp; omega))
  have HCALL := Lib.hid (rtext_any r s a (m + 1) _ HR4.out hs ha x hx)
  clear HR2 HG2 HF2
  go_wp2_with fail
  refine HCALL.out.mono ?_
  rintro e w5 ⟨cs, rfl, ⟨y, hat, hok⟩, hr5, hg5⟩
  have HR5 := Lib.hid hr5
  have HG5 := Lib.hid (grown_trans HG4.out hg5)
  have HF5 := Lib.hid (HF4.out.kept hg5 (by have := HRLT.out; simp; omega))
  have hs4 := lt_of_block HF4.out
  have HOK := Lib.hid hok
  have HAT := Lib.hid (V.At.move (T := fun b => w.heap.size + 1 ≤ b ∧ b < w5.heap.size) (fun b (hb : _ ∧ _) => ⟨by have := hb.1; omega, hb.2⟩) (fun _ _ => rfl) _ _ hat)
  obtain ⟨yk, yn, ys, yl⟩ := y
  have hat2 := HAT.out
  simp only [V.At] at hat2
  obtain ⟨ya, yc, rfl, -, -, -⟩ := hat2
  generalize hyl : yl.length = ym at *
  have HYL := Lib.hid hyl
  clear HCALL hr5 hg5 hat hok HR4 HG4 HF4 d1 d2 d3 k2 k3 hyl hs4
  have b0 := HF5.out.c0
  have b1 := HF5.out.c1
  have b2 := HF5.out.c2
  have b3 := HF5.out.c3
  have g0 := HF5.out.free 0
  have g1 := HF5.out.free 1
  have g2 := HF5.out.free 2
  have g3 := HF5.out.free 3
  go_wp2_with fail
  have HF9 := HF5.out.all (.int .i64 yk) (.int .i64 yn) (.string ys) (.slice ya ym yc)
  have hgf := grown_four w5 w.heap.size (.int .i64 yk) (.int .i64 yn) (.string ys) (.slice ya ym yc)
  clear b0 b1 b2 b3 g0 g1 g2 g3 
  generalize ((((w5.setCell ⟨w.heap.size, 0, none⟩ (.int .i64 yk)).setCell ⟨w.heap.size, 1, none⟩ (.int .i64 yn)).setCell ⟨w.heap.size, 2, none⟩ (.string ys)).setCell ⟨w.heap.size, 3, none⟩ (.slice ya ym yc)) = w10 at *
  have e0 := HF9.c0
  have e1 := HF9.c1
  have e2 := HF9.c2
  have e3 := HF9.c3
  (try simp only [Exit.inBlock, Exit.then])
  refine bodyPost_ret (v := .agg #[.int .i64 yk, .int .i64 yn, .string ys, .slice ya ym yc]) ?_ rfl ?_
  · rw [results_cell_one rfl]; go_simp
  · exact ⟨_, rfl, ⟨_, V.At.move (fun b (hb : _ ∧ _) => ⟨by have := hb.1; omega, Nat.lt_of_lt_of_le hb.2 hgf.size⟩) (fun b (hb : _ ∧ _) => hgf.block b hb.2 (by have := hb.1; simp; omega)) _ _ HAT.out, HOK.out⟩, HR5.out.kept hgf (by have := HR5.out.lt; have := HRLT.out; simp; omega), grown_fresh HG5.out hgf (Nat.le_refl _)⟩
end Go.Proofs.YtdlnabjledhiiaaDoor

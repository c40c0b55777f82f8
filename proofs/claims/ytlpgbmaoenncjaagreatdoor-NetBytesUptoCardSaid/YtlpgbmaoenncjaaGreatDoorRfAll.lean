/-
  The walk of hornbookref01's value: all but the list. (Written by wip/mkrfval.py.)
  The walk of hornbookref01's value: a list. (Written by wip/mkrflist.py.)
  The walk of hornbookref01's value as a whole, and of its Get: any text is read as just that value, or refused, as code.Get reads it. (Written by wip/mkrfget.py.)
-/
import Derived.Test.YtlpgbmaoenncjaaGreatDoorRfDigs
import Derived.Test.YtlpgbmaoenncjaaGreatDoorCvValue
import Derived.Test.YtlpgbmaoenncjaaGreatDoorCvGet
namespace Go.Proofs.YtlpgbmaoenncjaaGreatDoor
open Go.RowKit
set_option linter.unusedVariables false
set_option maxRecDepth 20000 in
set_option maxHeartbeats 1000000 in
theorem rv_wrong (r:Nat) (s:ByteArray) (k:Int) (a m:Nat) (w:World) (h:RdAt w r s a m 0) (hs:s.size≤131072) (ha:a≤s.size) (q:Int) (hq:Hid (q=nowL s a)) (q1:(q != 105)=true) (q2:(q != 108)=true) (q4:Hid (false=(decide (48≤q)&&decide (q≤57)))) :
 Calls Tryz.prog 94 #[.pointer (some ⟨r,0,none⟩),.int .i64 k] w (RfPost r s w (Rd.no a m (wrongL s a))):=by
 have HRLT:=Lib.hid h.lt
 have HR1:=h.alloc (.cells #[.int .i64 0,.int .i64 0,.string ⟨#[]⟩,.slice none 0 0] 70)
 have HF1:=Lib.hid (Four.new w 70 (.int .i64 0) (.int .i64 0) (.string ⟨#[]⟩) (.slice none 0 0))
 have HG1:=Lib.hid (World.grownBy_alloc w (.cells #[.int .i64 0,.int .i64 0,.string ⟨#[]⟩,.slice none 0 0] 70) (some r))
 have hnow:=Lib.hid (now_any r s a m 0 _ HR1 (by omega) q hq)
 have H1:=Lib.hid HR1
 have hai:(a:Int)≤131072:=by omega
 clear h HR1
 go_enter Tryz.func94,Tryz.ntmps94
 go_wp2_with fail
 refine hnow.out.mono ?_
 rintro e w2 ⟨rfl,n2,rfl⟩
 have HR2:=Lib.hid (H1.out.drewN n2)
 have HF2:Hid (Four ((w.alloc (.cells #[.int .i64 0,.int .i64 0,.string ⟨#[]⟩,.slice none 0 0] 70)).drewN n2) w.heap.size 70 (.int .i64 0) (.int .i64 0) (.string ⟨#[]⟩) (.slice none 0 0)):=Lib.hid (HF1.out.drewN n2)
 have HG2:=Lib.hid (grown_trans HG1.out (grown_drewN (World.grownBy.refl _ (some r)) n2))
 clear hnow H1 HF1 HG1
 generalize (w.alloc (.cells #[.int .i64 0,.int .i64 0,.string ⟨#[]⟩,.slice none 0 0] 70)).drewN n2=w2 at *
 have d2:=HR2.out.c2
 have d1:=HR2.out.c1
 have d3:=HR2.out.c3
 have k2:=HR2.out.free 2 (by decide)
 have k3:=HR2.out.free 3 (by decide)
 go_wp2_with fail
 refine (digit_any q w2 _ q4).mono ?_
 rintro e w3 ⟨rfl,rfl⟩
 have HWR:=Lib.hid (wrong_any r s a m 0 w3 HR2.out (by omega) (wrongL s a) (Lib.hid rfl))
 clear d1 d2 d3 k2 k3
 go_wp2_with fail
 refine HWR.out.mono ?_
 rintro e w4 ⟨rfl,hr4,hg4⟩
 have HR4:=Lib.hid hr4
 have HG4:=Lib.hid (grown_trans HG2.out hg4)
 have HF4:=Lib.hid (HF2.out.kept hg4 (by have:=HRLT.out; simp; omega))
 clear HWR hr4 hg4 HR2 HG2 HF2
 have b0:=HF4.out.c0
 have b1:=HF4.out.c1
 have b2:=HF4.out.c2
 have b3:=HF4.out.c3
 have g0:=HF4.out.free 0
 have g1:=HF4.out.free 1
 have g2:=HF4.out.free 2
 have g3:=HF4.out.free 3
 go_wp2_with fail
 have HF9:=HF4.out.all (.int .i64 0) (.int .i64 0) (.string ⟨#[]⟩) (.slice none 0 0)
 have hgf:=grown_four w4 w.heap.size (.int .i64 0) (.int .i64 0) (.string ⟨#[]⟩) (.slice none 0 0)
 clear b0 b1 b2 b3 g0 g1 g2 g3
 generalize ((((w4.setCell ⟨w.heap.size,0,none⟩ (.int .i64 0)).setCell ⟨w.heap.size,1,none⟩ (.int .i64 0)).setCell ⟨w.heap.size,2,none⟩ (.string ⟨#[]⟩)).setCell ⟨w.heap.size,3,none⟩ (.slice none 0 0))=w10 at *
 have e0:=HF9.c0
 have e1:=HF9.c1
 have e2:=HF9.c2
 have e3:=HF9.c3
 (try simp only [Exit.inBlock,Exit.then])
 refine bodyPost_ret (v:=.agg #[.int .i64 0,.int .i64 0,.string ⟨#[]⟩,.slice none 0 0]) ?_ rfl ?_
 ·rw [results_cell_one rfl]; go_simp
 ·exact⟨_,rfl,⟨zeroV,zeroV_at _ _,fun h=>by cases h⟩,HR4.out.kept hgf (by have:=HR4.out.lt; have:=HRLT.out; simp; omega),grown_fresh HG4.out hgf (Nat.le_refl _)⟩
set_option maxRecDepth 20000 in
set_option maxHeartbeats 1000000 in
theorem rv_deep_i (r:Nat) (s:ByteArray) (k:Int) (a m:Nat) (w:World) (h:RdAt w r s a m 0) (hs:s.size≤131072) (ha:a≤s.size) (q:Int) (hq:Hid (q=nowL s a)) (q1:(q != 105)=false) (q3:(q==105)=true) (hk:30≤k) :
 Calls Tryz.prog 94 #[.pointer (some ⟨r,0,none⟩),.int .i64 k] w (RfPost r s w (Rd.no a m 12)):=by
 have HRLT:=Lib.hid h.lt
 have HR1:=h.alloc (.cells #[.int .i64 0,.int .i64 0,.string ⟨#[]⟩,.slice none 0 0] 70)
 have HF1:=Lib.hid (Four.new w 70 (.int .i64 0) (.int .i64 0) (.string ⟨#[]⟩) (.slice none 0 0))
 have HG1:=Lib.hid (World.grownBy_alloc w (.cells #[.int .i64 0,.int .i64 0,.string ⟨#[]⟩,.slice none 0 0] 70) (some r))
 have hnow:=Lib.hid (now_any r s a m 0 _ HR1 (by omega) q hq)
 have H1:=Lib.hid HR1
 have hai:(a:Int)≤131072:=by omega
 clear h HR1
 go_enter Tryz.func94,Tryz.ntmps94
 go_wp2_with fail
 refine hnow.out.mono ?_
 rintro e w2 ⟨rfl,n2,rfl⟩
 have HR2:=Lib.hid (H1.out.drewN n2)
 have HF2:Hid (Four ((w.alloc (.cells #[.int .i64 0,.int .i64 0,.string ⟨#[]⟩,.slice none 0 0] 70)).drewN n2) w.heap.size 70 (.int .i64 0) (.int .i64 0) (.string ⟨#[]⟩) (.slice none 0 0)):=Lib.hid (HF1.out.drewN n2)
 have HG2:=Lib.hid (grown_trans HG1.out (grown_drewN (World.grownBy.refl _ (some r)) n2))
 clear hnow H1 HF1 HG1
 generalize (w.alloc (.cells #[.int .i64 0,.int .i64 0,.string ⟨#[]⟩,.slice none 0 0] 70)).drewN n2=w2 at *
 have d2:=HR2.out.c2
 have d1:=HR2.out.c1
 have d3:=HR2.out.c3
 have k2:=HR2.out.free 2 (by decide)
 have k3:=HR2.out.free 3 (by decide)
 have HR4:=Lib.hid (HR2.out.setBad 12)
 have HG4:=Lib.hid (grown_trans HG2.out (grown_setCell w2 r 3 (.int .i64 12)))
 have HF4:=Lib.hid (HF2.out.kept (grown_setCell w2 r 3 (.int .i64 12)) (by have:=HRLT.out; simp; omega))
 clear HR2 HG2 HF2
 have b0:=HF4.out.c0
 have b1:=HF4.out.c1
 have b2:=HF4.out.c2
 have b3:=HF4.out.c3
 have g0:=HF4.out.free 0
 have g1:=HF4.out.free 1
 have g2:=HF4.out.free 2
 have g3:=HF4.out.free 3
 go_wp2_with fail
 have HF9:=HF4.out.all (.int .i64 0) (.int .i64 0) (.string ⟨#[]⟩) (.slice none 0 0)
 have hgf:=grown_four (w2.setCell ⟨r,3,none⟩ (.int .i64 12)) w.heap.size (.int .i64 0) (.int .i64 0) (.string ⟨#[]⟩) (.slice none 0 0)
 clear b0 b1 b2 b3 g0 g1 g2 g3 d1 d2 d3 k2 k3
 generalize (((((w2.setCell ⟨r,3,none⟩ (.int .i64 12)).setCell ⟨w.heap.size,0,none⟩ (.int .i64 0)).setCell ⟨w.heap.size,1,none⟩ (.int .i64 0)).setCell ⟨w.heap.size,2,none⟩ (.string ⟨#[]⟩)).setCell ⟨w.heap.size,3,none⟩ (.slice none 0 0))=w10 at *
 have e0:=HF9.c0
 have e1:=HF9.c1
 have e2:=HF9.c2
 have e3:=HF9.c3
 (try simp only [Exit.inBlock,Exit.then])
 refine bodyPost_ret (v:=.agg #[.int .i64 0,.int .i64 0,.string ⟨#[]⟩,.slice none 0 0]) ?_ rfl ?_
 ·rw [results_cell_one rfl]; go_simp
 ·exact⟨_,rfl,⟨zeroV,zeroV_at _ _,fun h=>by cases h⟩,HR4.out.kept hgf (by have:=HR4.out.lt; have:=HRLT.out; simp; omega),grown_fresh HG4.out hgf (Nat.le_refl _)⟩
set_option maxRecDepth 20000 in
set_option maxHeartbeats 1000000 in
theorem rv_long_i (r:Nat) (s:ByteArray) (k:Int) (a m:Nat) (w:World) (h:RdAt w r s a m 0) (hs:s.size≤131072) (ha:a≤s.size) (q:Int) (hq:Hid (q=nowL s a)) (q1:(q != 105)=false) (q3:(q==105)=true) (hk:k<30) (hm:(4000:Int)≤(m:Int)) :
 Calls Tryz.prog 94 #[.pointer (some ⟨r,0,none⟩),.int .i64 k] w (RfPost r s w (Rd.no a m 2)):=by
 have HRLT:=Lib.hid h.lt
 have HR1:=h.alloc (.cells #[.int .i64 0,.int .i64 0,.string ⟨#[]⟩,.slice none 0 0] 70)
 have HF1:=Lib.hid (Four.new w 70 (.int .i64 0) (.int .i64 0) (.string ⟨#[]⟩) (.slice none 0 0))
 have HG1:=Lib.hid (World.grownBy_alloc w (.cells #[.int .i64 0,.int .i64 0,.string ⟨#[]⟩,.slice none 0 0] 70) (some r))
 have hnow:=Lib.hid (now_any r s a m 0 _ HR1 (by omega) q hq)
 have H1:=Lib.hid HR1
 have hai:(a:Int)≤131072:=by omega
 clear h HR1
 go_enter Tryz.func94,Tryz.ntmps94
 go_wp2_with fail
 refine hnow.out.mono ?_
 rintro e w2 ⟨rfl,n2,rfl⟩
 have HR2:=Lib.hid (H1.out.drewN n2)
 have HF2:Hid (Four ((w.alloc (.cells #[.int .i64 0,.int .i64 0,.string ⟨#[]⟩,.slice none 0 0] 70)).drewN n2) w.heap.size 70 (.int .i64 0) (.int .i64 0) (.string ⟨#[]⟩) (.slice none 0 0)):=Lib.hid (HF1.out.drewN n2)
 have HG2:=Lib.hid (grown_trans HG1.out (grown_drewN (World.grownBy.refl _ (some r)) n2))
 clear hnow H1 HF1 HG1
 generalize (w.alloc (.cells #[.int .i64 0,.int .i64 0,.string ⟨#[]⟩,.slice none 0 0] 70)).drewN n2=w2 at *
 have d2:=HR2.out.c2
 have d1:=HR2.out.c1
 have d3:=HR2.out.c3
 have k2:=HR2.out.free 2 (by decide)
 have k3:=HR2.out.free 3 (by decide)
 have HR4:=Lib.hid (HR2.out.setBad 2)
 have HG4:=Lib.hid (grown_trans HG2.out (grown_setCell w2 r 3 (.int .i64 2)))
 have HF4:=Lib.hid (HF2.out.kept (grown_setCell w2 r 3 (.int .i64 2)) (by have:=HRLT.out; simp; omega))
 clear HR2 HG2 HF2
 have b0:=HF4.out.c0
 have b1:=HF4.out.c1
 have b2:=HF4.out.c2
 have b3:=HF4.out.c3
 have g0:=HF4.out.free 0
 have g1:=HF4.out.free 1
 have g2:=HF4.out.free 2
 have g3:=HF4.out.free 3
 go_wp2_with fail
 have HF9:=HF4.out.all (.int .i64 0) (.int .i64 0) (.string ⟨#[]⟩) (.slice none 0 0)
 have hgf:=grown_four (w2.setCell ⟨r,3,none⟩ (.int .i64 2)) w.heap.size (.int .i64 0) (.int .i64 0) (.string ⟨#[]⟩) (.slice none 0 0)
 clear b0 b1 b2 b3 g0 g1 g2 g3 d1 d2 d3 k2 k3
 generalize (((((w2.setCell ⟨r,3,none⟩ (.int .i64 2)).setCell ⟨w.heap.size,0,none⟩ (.int .i64 0)).setCell ⟨w.heap.size,1,none⟩ (.int .i64 0)).setCell ⟨w.heap.size,2,none⟩ (.string ⟨#[]⟩)).setCell ⟨w.heap.size,3,none⟩ (.slice none 0 0))=w10 at *
 have e0:=HF9.c0
 have e1:=HF9.c1
 have e2:=HF9.c2
 have e3:=HF9.c3
 (try simp only [Exit.inBlock,Exit.then])
 refine bodyPost_ret (v:=.agg #[.int .i64 0,.int .i64 0,.string ⟨#[]⟩,.slice none 0 0]) ?_ rfl ?_
 ·rw [results_cell_one rfl]; go_simp
 ·exact⟨_,rfl,⟨zeroV,zeroV_at _ _,fun h=>by cases h⟩,HR4.out.kept hgf (by have:=HR4.out.lt; have:=HRLT.out; simp; omega),grown_fresh HG4.out hgf (Nat.le_refl _)⟩
set_option maxRecDepth 20000 in
set_option maxHeartbeats 1000000 in
theorem rv_deep_l (r:Nat) (s:ByteArray) (k:Int) (a m:Nat) (w:World) (h:RdAt w r s a m 0) (hs:s.size≤131072) (ha:a≤s.size) (q:Int) (hq:Hid (q=nowL s a)) (q1:(q != 105)=true) (q2:(q != 108)=false) (q3:(q==105)=false) (hk:30≤k) :
 Calls Tryz.prog 94 #[.pointer (some ⟨r,0,none⟩),.int .i64 k] w (RfPost r s w (Rd.no a m 12)):=by
 have HRLT:=Lib.hid h.lt
 have HR1:=h.alloc (.cells #[.int .i64 0,.int .i64 0,.string ⟨#[]⟩,.slice none 0 0] 70)
 have HF1:=Lib.hid (Four.new w 70 (.int .i64 0) (.int .i64 0) (.string ⟨#[]⟩) (.slice none 0 0))
 have HG1:=Lib.hid (World.grownBy_alloc w (.cells #[.int .i64 0,.int .i64 0,.string ⟨#[]⟩,.slice none 0 0] 70) (some r))
 have hnow:=Lib.hid (now_any r s a m 0 _ HR1 (by omega) q hq)
 have H1:=Lib.hid HR1
 have hai:(a:Int)≤131072:=by omega
 clear h HR1
 go_enter Tryz.func94,Tryz.ntmps94
 go_wp2_with fail
 refine hnow.out.mono ?_
 rintro e w2 ⟨rfl,n2,rfl⟩
 have HR2:=Lib.hid (H1.out.drewN n2)
 have HF2:Hid (Four ((w.alloc (.cells #[.int .i64 0,.int .i64 0,.string ⟨#[]⟩,.slice none 0 0] 70)).drewN n2) w.heap.size 70 (.int .i64 0) (.int .i64 0) (.string ⟨#[]⟩) (.slice none 0 0)):=Lib.hid (HF1.out.drewN n2)
 have HG2:=Lib.hid (grown_trans HG1.out (grown_drewN (World.grownBy.refl _ (some r)) n2))
 clear hnow H1 HF1 HG1
 generalize (w.alloc (.cells #[.int .i64 0,.int .i64 0,.string ⟨#[]⟩,.slice none 0 0] 70)).drewN n2=w2 at *
 have d2:=HR2.out.c2
 have d1:=HR2.out.c1
 have d3:=HR2.out.c3
 have k2:=HR2.out.free 2 (by decide)
 have k3:=HR2.out.free 3 (by decide)
 have HR4:=Lib.hid (HR2.out.setBad 12)
 have HG4:=Lib.hid (grown_trans HG2.out (grown_setCell w2 r 3 (.int .i64 12)))
 have HF4:=Lib.hid (HF2.out.kept (grown_setCell w2 r 3 (.int .i64 12)) (by have:=HRLT.out; simp; omega))
 clear HR2 HG2 HF2
 have b0:=HF4.out.c0
 have b1:=HF4.out.c1
 have b2:=HF4.out.c2
 have b3:=HF4.out.c3
 have g0:=HF4.out.free 0
 have g1:=HF4.out.free 1
 have g2:=HF4.out.free 2
 have g3:=HF4.out.free 3
 go_wp2_with fail
 have HF9:=HF4.out.all (.int .i64 0) (.int .i64 0) (.string ⟨#[]⟩) (.slice none 0 0)
 have hgf:=grown_four (w2.setCell ⟨r,3,none⟩ (.int .i64 12)) w.heap.size (.int .i64 0) (.int .i64 0) (.string ⟨#[]⟩) (.slice none 0 0)
 clear b0 b1 b2 b3 g0 g1 g2 g3 d1 d2 d3 k2 k3
 generalize (((((w2.setCell ⟨r,3,none⟩ (.int .i64 12)).setCell ⟨w.heap.size,0,none⟩ (.int .i64 0)).setCell ⟨w.heap.size,1,none⟩ (.int .i64 0)).setCell ⟨w.heap.size,2,none⟩ (.string ⟨#[]⟩)).setCell ⟨w.heap.size,3,none⟩ (.slice none 0 0))=w10 at *
 have e0:=HF9.c0
 have e1:=HF9.c1
 have e2:=HF9.c2
 have e3:=HF9.c3
 (try simp only [Exit.inBlock,Exit.then])
 refine bodyPost_ret (v:=.agg #[.int .i64 0,.int .i64 0,.string ⟨#[]⟩,.slice none 0 0]) ?_ rfl ?_
 ·rw [results_cell_one rfl]; go_simp
 ·exact⟨_,rfl,⟨zeroV,zeroV_at _ _,fun h=>by cases h⟩,HR4.out.kept hgf (by have:=HR4.out.lt; have:=HRLT.out; simp; omega),grown_fresh HG4.out hgf (Nat.le_refl _)⟩
set_option maxRecDepth 20000 in
set_option maxHeartbeats 1000000 in
theorem rv_long_l (r:Nat) (s:ByteArray) (k:Int) (a m:Nat) (w:World) (h:RdAt w r s a m 0) (hs:s.size≤131072) (ha:a≤s.size) (q:Int) (hq:Hid (q=nowL s a)) (q1:(q != 105)=true) (q2:(q != 108)=false) (q3:(q==105)=false) (hk:k<30) (hm:(4000:Int)≤(m:Int)) :
 Calls Tryz.prog 94 #[.pointer (some ⟨r,0,none⟩),.int .i64 k] w (RfPost r s w (Rd.no a m 2)):=by
 have HRLT:=Lib.hid h.lt
 have HR1:=h.alloc (.cells #[.int .i64 0,.int .i64 0,.string ⟨#[]⟩,.slice none 0 0] 70)
 have HF1:=Lib.hid (Four.new w 70 (.int .i64 0) (.int .i64 0) (.string ⟨#[]⟩) (.slice none 0 0))
 have HG1:=Lib.hid (World.grownBy_alloc w (.cells #[.int .i64 0,.int .i64 0,.string ⟨#[]⟩,.slice none 0 0] 70) (some r))
 have hnow:=Lib.hid (now_any r s a m 0 _ HR1 (by omega) q hq)
 have H1:=Lib.hid HR1
 have hai:(a:Int)≤131072:=by omega
 clear h HR1
 go_enter Tryz.func94,Tryz.ntmps94
 go_wp2_with fail
 refine hnow.out.mono ?_
 rintro e w2 ⟨rfl,n2,rfl⟩
 have HR2:=Lib.hid (H1.out.drewN n2)
 have HF2:Hid (Four ((w.alloc (.cells #[.int .i64 0,.int .i64 0,.string ⟨#[]⟩,.slice none 0 0] 70)).drewN n2) w.heap.size 70 (.int .i64 0) (.int .i64 0) (.string ⟨#[]⟩) (.slice none 0 0)):=Lib.hid (HF1.out.drewN n2)
 have HG2:=Lib.hid (grown_trans HG1.out (grown_drewN (World.grownBy.refl _ (some r)) n2))
 clear hnow H1 HF1 HG1
 generalize (w.alloc (.cells #[.int .i64 0,.int .i64 0,.string ⟨#[]⟩,.slice none 0 0] 70)).drewN n2=w2 at *
 have d2:=HR2.out.c2
 have d1:=HR2.out.c1
 have d3:=HR2.out.c3
 have k2:=HR2.out.free 2 (by decide)
 have k3:=HR2.out.free 3 (by decide)
 have HR4:=Lib.hid (HR2.out.setBad 2)
 have HG4:=Lib.hid (grown_trans HG2.out (grown_setCell w2 r 3 (.int .i64 2)))
 have HF4:=Lib.hid (HF2.out.kept (grown_setCell w2 r 3 (.int .i64 2)) (by have:=HRLT.out; simp; omega))
 clear HR2 HG2 HF2
 have b0:=HF4.out.c0
 have b1:=HF4.out.c1
 have b2:=HF4.out.c2
 have b3:=HF4.out.c3
 have g0:=HF4.out.free 0
 have g1:=HF4.out.free 1
 have g2:=HF4.out.free 2
 have g3:=HF4.out.free 3
 go_wp2_with fail
 have HF9:=HF4.out.all (.int .i64 0) (.int .i64 0) (.string ⟨#[]⟩) (.slice none 0 0)
 have hgf:=grown_four (w2.setCell ⟨r,3,none⟩ (.int .i64 2)) w.heap.size (.int .i64 0) (.int .i64 0) (.string ⟨#[]⟩) (.slice none 0 0)
 clear b0 b1 b2 b3 g0 g1 g2 g3 d1 d2 d3 k2 k3
 generalize (((((w2.setCell ⟨r,3,none⟩ (.int .i64 2)).setCell ⟨w.heap.size,0,none⟩ (.int .i64 0)).setCell ⟨w.heap.size,1,none⟩ (.int .i64 0)).setCell ⟨w.heap.size,2,none⟩ (.string ⟨#[]⟩)).setCell ⟨w.heap.size,3,none⟩ (.slice none 0 0))=w10 at *
 have e0:=HF9.c0
 have e1:=HF9.c1
 have e2:=HF9.c2
 have e3:=HF9.c3
 (try simp only [Exit.inBlock,Exit.then])
 refine bodyPost_ret (v:=.agg #[.int .i64 0,.int .i64 0,.string ⟨#[]⟩,.slice none 0 0]) ?_ rfl ?_
 ·rw [results_cell_one rfl]; go_simp
 ·exact⟨_,rfl,⟨zeroV,zeroV_at _ _,fun h=>by cases h⟩,HR4.out.kept hgf (by have:=HR4.out.lt; have:=HRLT.out; simp; omega),grown_fresh HG4.out hgf (Nat.le_refl _)⟩
set_option maxRecDepth 20000 in
set_option maxHeartbeats 1000000 in
theorem rv_deep_d (r:Nat) (s:ByteArray) (k:Int) (a m:Nat) (w:World) (h:RdAt w r s a m 0) (hs:s.size≤131072) (ha:a≤s.size) (q:Int) (hq:Hid (q=nowL s a)) (q1:(q != 105)=true) (q2:(q != 108)=true) (q3:(q==105)=false) (q4:Hid (true=(decide (48≤q)&&decide (q≤57)))) (hk:30≤k) :
 Calls Tryz.prog 94 #[.pointer (some ⟨r,0,none⟩),.int .i64 k] w (RfPost r s w (Rd.no a m 12)):=by
 have HRLT:=Lib.hid h.lt
 have HR1:=h.alloc (.cells #[.int .i64 0,.int .i64 0,.string ⟨#[]⟩,.slice none 0 0] 70)
 have HF1:=Lib.hid (Four.new w 70 (.int .i64 0) (.int .i64 0) (.string ⟨#[]⟩) (.slice none 0 0))
 have HG1:=Lib.hid (World.grownBy_alloc w (.cells #[.int .i64 0,.int .i64 0,.string ⟨#[]⟩,.slice none 0 0] 70) (some r))
 have hnow:=Lib.hid (now_any r s a m 0 _ HR1 (by omega) q hq)
 have H1:=Lib.hid HR1
 have hai:(a:Int)≤131072:=by omega
 clear h HR1
 go_enter Tryz.func94,Tryz.ntmps94
 go_wp2_with fail
 refine hnow.out.mono ?_
 rintro e w2 ⟨rfl,n2,rfl⟩
 have HR2:=Lib.hid (H1.out.drewN n2)
 have HF2:Hid (Four ((w.alloc (.cells #[.int .i64 0,.int .i64 0,.string ⟨#[]⟩,.slice none 0 0] 70)).drewN n2) w.heap.size 70 (.int .i64 0) (.int .i64 0) (.string ⟨#[]⟩) (.slice none 0 0)):=Lib.hid (HF1.out.drewN n2)
 have HG2:=Lib.hid (grown_trans HG1.out (grown_drewN (World.grownBy.refl _ (some r)) n2))
 clear hnow H1 HF1 HG1
 generalize (w.alloc (.cells #[.int .i64 0,.int .i64 0,.string ⟨#[]⟩,.slice none 0 0] 70)).drewN n2=w2 at *
 have d2:=HR2.out.c2
 have d1:=HR2.out.c1
 have d3:=HR2.out.c3
 have k2:=HR2.out.free 2 (by decide)
 have k3:=HR2.out.free 3 (by decide)
 go_wp2_with fail
 refine (digit_any q w2 _ q4).mono ?_
 rintro e w3 ⟨rfl,rfl⟩
 have HR4:=Lib.hid (HR2.out.setBad 12)
 have HG4:=Lib.hid (grown_trans HG2.out (grown_setCell w3 r 3 (.int .i64 12)))
 have HF4:=Lib.hid (HF2.out.kept (grown_setCell w3 r 3 (.int .i64 12)) (by have:=HRLT.out; simp; omega))
 clear HR2 HG2 HF2
 have b0:=HF4.out.c0
 have b1:=HF4.out.c1
 have b2:=HF4.out.c2
 have b3:=HF4.out.c3
 have g0:=HF4.out.free 0
 have g1:=HF4.out.free 1
 have g2:=HF4.out.free 2
 have g3:=HF4.out.free 3
 go_wp2_with fail
 have HF9:=HF4.out.all (.int .i64 0) (.int .i64 0) (.string ⟨#[]⟩) (.slice none 0 0)
 have hgf:=grown_four (w3.setCell ⟨r,3,none⟩ (.int .i64 12)) w.heap.size (.int .i64 0) (.int .i64 0) (.string ⟨#[]⟩) (.slice none 0 0)
 clear b0 b1 b2 b3 g0 g1 g2 g3 d1 d2 d3 k2 k3
 generalize (((((w3.setCell ⟨r,3,none⟩ (.int .i64 12)).setCell ⟨w.heap.size,0,none⟩ (.int .i64 0)).setCell ⟨w.heap.size,1,none⟩ (.int .i64 0)).setCell ⟨w.heap.size,2,none⟩ (.string ⟨#[]⟩)).setCell ⟨w.heap.size,3,none⟩ (.slice none 0 0))=w10 at *
 have e0:=HF9.c0
 have e1:=HF9.c1
 have e2:=HF9.c2
 have e3:=HF9.c3
 (try simp only [Exit.inBlock,Exit.then])
 refine bodyPost_ret (v:=.agg #[.int .i64 0,.int .i64 0,.string ⟨#[]⟩,.slice none 0 0]) ?_ rfl ?_
 ·rw [results_cell_one rfl]; go_simp
 ·exact⟨_,rfl,⟨zeroV,zeroV_at _ _,fun h=>by cases h⟩,HR4.out.kept hgf (by have:=HR4.out.lt; have:=HRLT.out; simp; omega),grown_fresh HG4.out hgf (Nat.le_refl _)⟩
set_option maxRecDepth 20000 in
set_option maxHeartbeats 1000000 in
theorem rv_long_d (r:Nat) (s:ByteArray) (k:Int) (a m:Nat) (w:World) (h:RdAt w r s a m 0) (hs:s.size≤131072) (ha:a≤s.size) (q:Int) (hq:Hid (q=nowL s a)) (q1:(q != 105)=true) (q2:(q != 108)=true) (q3:(q==105)=false) (q4:Hid (true=(decide (48≤q)&&decide (q≤57)))) (hk:k<30) (hm:(4000:Int)≤(m:Int)) :
 Calls Tryz.prog 94 #[.pointer (some ⟨r,0,none⟩),.int .i64 k] w (RfPost r s w (Rd.no a m 2)):=by
 have HRLT:=Lib.hid h.lt
 have HR1:=h.alloc (.cells #[.int .i64 0,.int .i64 0,.string ⟨#[]⟩,.slice none 0 0] 70)
 have HF1:=Lib.hid (Four.new w 70 (.int .i64 0) (.int .i64 0) (.string ⟨#[]⟩) (.slice none 0 0))
 have HG1:=Lib.hid (World.grownBy_alloc w (.cells #[.int .i64 0,.int .i64 0,.string ⟨#[]⟩,.slice none 0 0] 70) (some r))
 have hnow:=Lib.hid (now_any r s a m 0 _ HR1 (by omega) q hq)
 have H1:=Lib.hid HR1
 have hai:(a:Int)≤131072:=by omega
 clear h HR1
 go_enter Tryz.func94,Tryz.ntmps94
 go_wp2_with fail
 refine hnow.out.mono ?_
 rintro e w2 ⟨rfl,n2,rfl⟩
 have HR2:=Lib.hid (H1.out.drewN n2)
 have HF2:Hid (Four ((w.alloc (.cells #[.int .i64 0,.int .i64 0,.string ⟨#[]⟩,.slice none 0 0] 70)).drewN n2) w.heap.size 70 (.int .i64 0) (.int .i64 0) (.string ⟨#[]⟩) (.slice none 0 0)):=Lib.hid (HF1.out.drewN n2)
 have HG2:=Lib.hid (grown_trans HG1.out (grown_drewN (World.grownBy.refl _ (some r)) n2))
 clear hnow H1 HF1 HG1
 generalize (w.alloc (.cells #[.int .i64 0,.int .i64 0,.string ⟨#[]⟩,.slice none 0 0] 70)).drewN n2=w2 at *
 have d2:=HR2.out.c2
 have d1:=HR2.out.c1
 have d3:=HR2.out.c3
 have k2:=HR2.out.free 2 (by decide)
 have k3:=HR2.out.free 3 (by decide)
 go_wp2_with fail
 refine (digit_any q w2 _ q4).mono ?_
 rintro e w3 ⟨rfl,rfl⟩
 have HR4:=Lib.hid (HR2.out.setBad 2)
 have HG4:=Lib.hid (grown_trans HG2.out (grown_setCell w3 r 3 (.int .i64 2)))
 have HF4:=Lib.hid (HF2.out.kept (grown_setCell w3 r 3 (.int .i64 2)) (by have:=HRLT.out; simp; omega))
 clear HR2 HG2 HF2
 have b0:=HF4.out.c0
 have b1:=HF4.out.c1
 have b2:=HF4.out.c2
 have b3:=HF4.out.c3
 have g0:=HF4.out.free 0
 have g1:=HF4.out.free 1
 have g2:=HF4.out.free 2
 have g3:=HF4.out.free 3
 go_wp2_with fail
 have HF9:=HF4.out.all (.int .i64 0) (.int .i64 0) (.string ⟨#[]⟩) (.slice none 0 0)
 have hgf:=grown_four (w3.setCell ⟨r,3,none⟩ (.int .i64 2)) w.heap.size (.int .i64 0) (.int .i64 0) (.string ⟨#[]⟩) (.slice none 0 0)
 clear b0 b1 b2 b3 g0 g1 g2 g3 d1 d2 d3 k2 k3
 generalize (((((w3.setCell ⟨r,3,none⟩ (.int .i64 2)).setCell ⟨w.heap.size,0,none⟩ (.int .i64 0)).setCell ⟨w.heap.size,1,none⟩ (.int .i64 0)).setCell ⟨w.heap.size,2,none⟩ (.string ⟨#[]⟩)).setCell ⟨w.heap.size,3,none⟩ (.slice none 0 0))=w10 at *
 have e0:=HF9.c0
 have e1:=HF9.c1
 have e2:=HF9.c2
 have e3:=HF9.c3
 (try simp only [Exit.inBlock,Exit.then])
 refine bodyPost_ret (v:=.agg #[.int .i64 0,.int .i64 0,.string ⟨#[]⟩,.slice none 0 0]) ?_ rfl ?_
 ·rw [results_cell_one rfl]; go_simp
 ·exact⟨_,rfl,⟨zeroV,zeroV_at _ _,fun h=>by cases h⟩,HR4.out.kept hgf (by have:=HR4.out.lt; have:=HRLT.out; simp; omega),grown_fresh HG4.out hgf (Nat.le_refl _)⟩
set_option maxRecDepth 20000 in
set_option maxHeartbeats 1000000 in
theorem rv_num (r:Nat) (s:ByteArray) (k:Int) (a m:Nat) (w:World) (h:RdAt w r s a m 0) (hs:s.size≤131072) (ha:a≤s.size) (q:Int) (hq:Hid (q=nowL s a)) (q1:(q != 105)=false) (q3:(q==105)=true) (hlt:a<s.size) (hk:k<30) (hm:(m:Int)<4000) (x:Rd) (hx:Hid (x=rdNumber s (a+1) (m+1))) :
 Calls Tryz.prog 94 #[.pointer (some ⟨r,0,none⟩),.int .i64 k] w (RfPost r s w x):=by
 have HRLT:=Lib.hid h.lt
 have HR1:=h.alloc (.cells #[.int .i64 0,.int .i64 0,.string ⟨#[]⟩,.slice none 0 0] 70)
 have HF1:=Lib.hid (Four.new w 70 (.int .i64 0) (.int .i64 0) (.string ⟨#[]⟩) (.slice none 0 0))
 have HG1:=Lib.hid (World.grownBy_alloc w (.cells #[.int .i64 0,.int .i64 0,.string ⟨#[]⟩,.slice none 0 0] 70) (some r))
 have hnow:=Lib.hid (now_any r s a m 0 _ HR1 (by omega) q hq)
 have H1:=Lib.hid HR1
 have hai:(a:Int)≤131072:=by omega
 clear h HR1
 go_enter Tryz.func94,Tryz.ntmps94
 go_wp2_with fail
 refine hnow.out.mono ?_
 rintro e w2 ⟨rfl,n2,rfl⟩
 have HR2:=Lib.hid (H1.out.drewN n2)
 have HF2:Hid (Four ((w.alloc (.cells #[.int .i64 0,.int .i64 0,.string ⟨#[]⟩,.slice none 0 0] 70)).drewN n2) w.heap.size 70 (.int .i64 0) (.int .i64 0) (.string ⟨#[]⟩) (.slice none 0 0)):=Lib.hid (HF1.out.drewN n2)
 have HG2:=Lib.hid (grown_trans HG1.out (grown_drewN (World.grownBy.refl _ (some r)) n2))
 clear hnow H1 HF1 HG1
 generalize (w.alloc (.cells #[.int .i64 0,.int .i64 0,.string ⟨#[]⟩,.slice none 0 0] 70)).drewN n2=w2 at *
 have d2:=HR2.out.c2
 have d1:=HR2.out.c1
 have d3:=HR2.out.c3
 have k2:=HR2.out.free 2 (by decide)
 have k3:=HR2.out.free 3 (by decide)
 have HR4:Hid (RdAt (w2.setCell ⟨r,2,none⟩ (.int .i64 ((m:Int)+1))) r s a ((m+1:Nat):Int) 0):=Lib.hid (by rw [Int.natCast_add]; exact HR2.out.setMany _)
 have HG4:=Lib.hid (grown_trans HG2.out (grown_setCell w2 r 2 (.int .i64 ((m:Int)+1))))
 have HF4:=Lib.hid (HF2.out.kept (grown_setCell w2 r 2 (.int .i64 ((m:Int)+1))) (by have:=HRLT.out; simp; omega))
 have HCALL:=Lib.hid (rnumber_any r s a (m+1) _ HR4.out hs hlt x hx)
 clear HR2 HG2 HF2
 go_wp2_with fail
 refine HCALL.out.mono ?_
 rintro e w5 ⟨cs,rfl,⟨y,hat,hok⟩,hr5,hg5⟩
 have HR5:=Lib.hid hr5
 have HG5:=Lib.hid (grown_trans HG4.out hg5)
 have HF5:=Lib.hid (HF4.out.kept hg5 (by have:=HRLT.out; simp; omega))
 have hs4:=lt_of_block HF4.out
 have HOK:=Lib.hid hok
 have HAT:=Lib.hid (V.At.move (T:=fun b=>w.heap.size+1≤b∧b<w5.heap.size) (fun b (hb:_∧_)=>⟨by have:=hb.1; omega,hb.2⟩) (fun _ _=>rfl) _ _ hat)
 obtain⟨yk,yn,ys,yl⟩:=y
 have hat2:=HAT.out
 simp only [V.At] at hat2
 obtain⟨ya,yc,rfl,-,-,-⟩:=hat2
 generalize hyl:yl.length=ym at *
 have HYL:=Lib.hid hyl
 clear HCALL hr5 hg5 hat hok HR4 HG4 HF4 d1 d2 d3 k2 k3 hyl hs4
 have b0:=HF5.out.c0
 have b1:=HF5.out.c1
 have b2:=HF5.out.c2
 have b3:=HF5.out.c3
 have g0:=HF5.out.free 0
 have g1:=HF5.out.free 1
 have g2:=HF5.out.free 2
 have g3:=HF5.out.free 3
 go_wp2_with fail
 have HF9:=HF5.out.all (.int .i64 yk) (.int .i64 yn) (.string ys) (.slice ya ym yc)
 have hgf:=grown_four w5 w.heap.size (.int .i64 yk) (.int .i64 yn) (.string ys) (.slice ya ym yc)
 clear b0 b1 b2 b3 g0 g1 g2 g3
 generalize ((((w5.setCell ⟨w.heap.size,0,none⟩ (.int .i64 yk)).setCell ⟨w.heap.size,1,none⟩ (.int .i64 yn)).setCell ⟨w.heap.size,2,none⟩ (.string ys)).setCell ⟨w.heap.size,3,none⟩ (.slice ya ym yc))=w10 at *
 have e0:=HF9.c0
 have e1:=HF9.c1
 have e2:=HF9.c2
 have e3:=HF9.c3
 (try simp only [Exit.inBlock,Exit.then])
 refine bodyPost_ret (v:=.agg #[.int .i64 yk,.int .i64 yn,.string ys,.slice ya ym yc]) ?_ rfl ?_
 ·rw [results_cell_one rfl]; go_simp
 ·exact⟨_,rfl,⟨_,V.At.move (fun b (hb:_∧_)=>⟨by have:=hb.1; omega,Nat.lt_of_lt_of_le hb.2 hgf.size⟩) (fun b (hb:_∧_)=>hgf.block b hb.2 (by have:=hb.1; simp; omega)) _ _ HAT.out,HOK.out⟩,HR5.out.kept hgf (by have:=HR5.out.lt; have:=HRLT.out; simp; omega),grown_fresh HG5.out hgf (Nat.le_refl _)⟩
set_option maxRecDepth 20000 in
set_option maxHeartbeats 1000000 in
theorem rv_text (r:Nat) (s:ByteArray) (k:Int) (a m:Nat) (w:World) (h:RdAt w r s a m 0) (hs:s.size≤131072) (ha:a≤s.size) (q:Int) (hq:Hid (q=nowL s a)) (q1:(q != 105)=true) (q2:(q != 108)=true) (q3:(q==105)=false) (q4:Hid (true=(decide (48≤q)&&decide (q≤57)))) (hlt:a<s.size) (hk:k<30) (hm:(m:Int)<4000) (x:Rd) (hx:Hid (x=rdText s a (m+1))) :
 Calls Tryz.prog 94 #[.pointer (some ⟨r,0,none⟩),.int .i64 k] w (RfPost r s w x):=by
 have HRLT:=Lib.hid h.lt
 have HR1:=h.alloc (.cells #[.int .i64 0,.int .i64 0,.string ⟨#[]⟩,.slice none 0 0] 70)
 have HF1:=Lib.hid (Four.new w 70 (.int .i64 0) (.int .i64 0) (.string ⟨#[]⟩) (.slice none 0 0))
 have HG1:=Lib.hid (World.grownBy_alloc w (.cells #[.int .i64 0,.int .i64 0,.string ⟨#[]⟩,.slice none 0 0] 70) (some r))
 have hnow:=Lib.hid (now_any r s a m 0 _ HR1 (by omega) q hq)
 have H1:=Lib.hid HR1
 have hai:(a:Int)≤131072:=by omega
 clear h HR1
 go_enter Tryz.func94,Tryz.ntmps94
 go_wp2_with fail
 refine hnow.out.mono ?_
 rintro e w2 ⟨rfl,n2,rfl⟩
 have HR2:=Lib.hid (H1.out.drewN n2)
 have HF2:Hid (Four ((w.alloc (.cells #[.int .i64 0,.int .i64 0,.string ⟨#[]⟩,.slice none 0 0] 70)).drewN n2) w.heap.size 70 (.int .i64 0) (.int .i64 0) (.string ⟨#[]⟩) (.slice none 0 0)):=Lib.hid (HF1.out.drewN n2)
 have HG2:=Lib.hid (grown_trans HG1.out (grown_drewN (World.grownBy.refl _ (some r)) n2))
 clear hnow H1 HF1 HG1
 generalize (w.alloc (.cells #[.int .i64 0,.int .i64 0,.string ⟨#[]⟩,.slice none 0 0] 70)).drewN n2=w2 at *
 have d2:=HR2.out.c2
 have d1:=HR2.out.c1
 have d3:=HR2.out.c3
 have k2:=HR2.out.free 2 (by decide)
 have k3:=HR2.out.free 3 (by decide)
 go_wp2_with fail
 refine (digit_any q w2 _ q4).mono ?_
 rintro e w3 ⟨rfl,rfl⟩
 have HR4:Hid (RdAt (w3.setCell ⟨r,2,none⟩ (.int .i64 ((m:Int)+1))) r s a ((m+1:Nat):Int) 0):=Lib.hid (by rw [Int.natCast_add]; exact HR2.out.setMany _)
 have HG4:=Lib.hid (grown_trans HG2.out (grown_setCell w3 r 2 (.int .i64 ((m:Int)+1))))
 have HF4:=Lib.hid (HF2.out.kept (grown_setCell w3 r 2 (.int .i64 ((m:Int)+1))) (by have:=HRLT.out; simp; omega))
 have HCALL:=Lib.hid (rtext_any r s a (m+1) _ HR4.out hs ha x hx)
 clear HR2 HG2 HF2
 go_wp2_with fail
 refine HCALL.out.mono ?_
 rintro e w5 ⟨cs,rfl,⟨y,hat,hok⟩,hr5,hg5⟩
 have HR5:=Lib.hid hr5
 have HG5:=Lib.hid (grown_trans HG4.out hg5)
 have HF5:=Lib.hid (HF4.out.kept hg5 (by have:=HRLT.out; simp; omega))
 have hs4:=lt_of_block HF4.out
 have HOK:=Lib.hid hok
 have HAT:=Lib.hid (V.At.move (T:=fun b=>w.heap.size+1≤b∧b<w5.heap.size) (fun b (hb:_∧_)=>⟨by have:=hb.1; omega,hb.2⟩) (fun _ _=>rfl) _ _ hat)
 obtain⟨yk,yn,ys,yl⟩:=y
 have hat2:=HAT.out
 simp only [V.At] at hat2
 obtain⟨ya,yc,rfl,-,-,-⟩:=hat2
 generalize hyl:yl.length=ym at *
 have HYL:=Lib.hid hyl
 clear HCALL hr5 hg5 hat hok HR4 HG4 HF4 d1 d2 d3 k2 k3 hyl hs4
 have b0:=HF5.out.c0
 have b1:=HF5.out.c1
 have b2:=HF5.out.c2
 have b3:=HF5.out.c3
 have g0:=HF5.out.free 0
 have g1:=HF5.out.free 1
 have g2:=HF5.out.free 2
 have g3:=HF5.out.free 3
 go_wp2_with fail
 have HF9:=HF5.out.all (.int .i64 yk) (.int .i64 yn) (.string ys) (.slice ya ym yc)
 have hgf:=grown_four w5 w.heap.size (.int .i64 yk) (.int .i64 yn) (.string ys) (.slice ya ym yc)
 clear b0 b1 b2 b3 g0 g1 g2 g3
 generalize ((((w5.setCell ⟨w.heap.size,0,none⟩ (.int .i64 yk)).setCell ⟨w.heap.size,1,none⟩ (.int .i64 yn)).setCell ⟨w.heap.size,2,none⟩ (.string ys)).setCell ⟨w.heap.size,3,none⟩ (.slice ya ym yc))=w10 at *
 have e0:=HF9.c0
 have e1:=HF9.c1
 have e2:=HF9.c2
 have e3:=HF9.c3
 (try simp only [Exit.inBlock,Exit.then])
 refine bodyPost_ret (v:=.agg #[.int .i64 yk,.int .i64 yn,.string ys,.slice ya ym yc]) ?_ rfl ?_
 ·rw [results_cell_one rfl]; go_simp
 ·exact⟨_,rfl,⟨_,V.At.move (fun b (hb:_∧_)=>⟨by have:=hb.1; omega,Nat.lt_of_lt_of_le hb.2 hgf.size⟩) (fun b (hb:_∧_)=>hgf.block b hb.2 (by have:=hb.1; simp; omega)) _ _ HAT.out,HOK.out⟩,HR5.out.kept hgf (by have:=HR5.out.lt; have:=HRLT.out; simp; omega),grown_fresh HG5.out hgf (Nat.le_refl _)⟩
end Go.Proofs.YtlpgbmaoenncjaaGreatDoor
namespace Go.Proofs.YtlpgbmaoenncjaaGreatDoor
open Go.RowKit
set_option linter.unusedVariables false
set_option maxRecDepth 20000 in
set_option maxHeartbeats 2000000 in
theorem rv_list (r:Nat) (s:ByteArray) (k:Int) (a m:Nat) (w:World) (h:RdAt w r s a m 0) (hs:s.size≤131072) (ha:a≤s.size) (q:Int) (hq:Hid (q=nowL s a)) (q1:(q != 105)=true) (q2:(q != 108)=false) (q3:(q==105)=false) (hlt:a<s.size) (hk:k<30) (hk0:0≤k) (hm:(m:Int)<4000)
 (rd:Nat→Nat→Rd) (hgood:Hid (∀ a m,m≤4000→Rd.Good s a (rd a m))) (hbadd:Hid (∀ a m,a≤s.size→m≤4000→Rd.Bad s (rd a m)))
 (IH:Hid (∀ (a m:Nat) (w:World),RdAt w r s a m 0→a≤s.size→m≤4000→Calls Tryz.prog 94 #[.pointer (some ⟨r,0,none⟩),.int .i64 (k+1)] w (RfPost r s w (rd a m))))
 (x:Rd) (hx:Hid (x=rdList rd s (s.size+1 - (a+1)) (a+1) (m+1) [])) :
 Calls Tryz.prog 94 #[.pointer (some ⟨r,0,none⟩),.int .i64 k] w (RfPost r s w x):=by
 obtain⟨i0,hi0,hz0,hz1,hz2⟩:=infoV
 have HI:=Lib.hid hi0
 have HZ:=Lib.hid (And.intro hz0 (And.intro hz1 hz2))
 clear hi0 hz0 hz1 hz2
 have HRLT:=Lib.hid h.lt
 have HR1:=h.alloc (.cells #[.int .i64 0,.int .i64 0,.string ⟨#[]⟩,.slice none 0 0] 70)
 have HF1:=Lib.hid (Four.new w 70 (.int .i64 0) (.int .i64 0) (.string ⟨#[]⟩) (.slice none 0 0))
 have HG1:=Lib.hid (World.grownBy_alloc w (.cells #[.int .i64 0,.int .i64 0,.string ⟨#[]⟩,.slice none 0 0] 70) (some r))
 have hnow:=Lib.hid (now_any r s a m 0 _ HR1 (by omega) q hq)
 have H1:=Lib.hid HR1
 have hai:(a:Int)≤131072:=by omega
 clear h HR1
 go_enter Tryz.func94,Tryz.ntmps94
 go_wp2_with fail
 refine hnow.out.mono ?_
 rintro e w2 ⟨rfl,n2,rfl⟩
 have HR2:=Lib.hid (H1.out.drewN n2)
 have HF2:Hid (Four ((w.alloc (.cells #[.int .i64 0,.int .i64 0,.string ⟨#[]⟩,.slice none 0 0] 70)).drewN n2) w.heap.size 70 (.int .i64 0) (.int .i64 0) (.string ⟨#[]⟩) (.slice none 0 0)):=Lib.hid (HF1.out.drewN n2)
 have HG2:=Lib.hid (grown_trans HG1.out (grown_drewN (World.grownBy.refl _ (some r)) n2))
 clear hnow H1 HF1 HG1
 generalize (w.alloc (.cells #[.int .i64 0,.int .i64 0,.string ⟨#[]⟩,.slice none 0 0] 70)).drewN n2=w2 at *
 have d2:=HR2.out.c2
 have d1:=HR2.out.c1
 have d3:=HR2.out.c3
 have k2:=HR2.out.free 2 (by decide)
 have k3:=HR2.out.free 3 (by decide)
 have HR4:Hid (RdAt ((w2.setCell ⟨r,2,none⟩ (.int .i64 ((m:Int)+1))).setCell ⟨r,1,none⟩ (.int .i64 ((a:Int)+1))) r s ((a+1:Nat):Int) ((m+1:Nat):Int) 0):=Lib.hid (by rw [Int.natCast_add,Int.natCast_add]; exact (HR2.out.setMany _).setAt _)
 have hg4:=grown_trans (grown_setCell w2 r 2 (.int .i64 ((m:Int)+1))) (grown_setCell (w2.setCell ⟨r,2,none⟩ (.int .i64 ((m:Int)+1))) r 1 (.int .i64 ((a:Int)+1)))
 have HG4:=Lib.hid (grown_trans HG2.out hg4)
 have HF4:=Lib.hid (HF2.out.kept hg4 (by have:=HRLT.out; simp; omega))
 have k1:=HR2.out.free 1 (by decide)
 clear HR2 HG2 HF2 hg4
 go_wp2_with fail
 clear d1 d2 d3 k1 k2 k3
 obtain⟨B,hB⟩:∃ B,B=w2.heap.size:=⟨_,rfl⟩
 rw [← hB]
 have hsz5:((w2.setCell ⟨r,2,none⟩ (.int .i64 ((m:Int)+1))).setCell ⟨r,1,none⟩ (.int .i64 ((a:Int)+1))).heap.size=B:=by simp; exact hB.symm
 clear hB
 generalize ((w2.setCell ⟨r,2,none⟩ (.int .i64 ((m:Int)+1))).setCell ⟨r,1,none⟩ (.int .i64 ((a:Int)+1)))=w5 at *
 have hB:=hsz5.symm
 have hbw:w.heap.size<B:=by have:=lt_of_block HF4.out; omega
 have HF6:=Lib.hid (HF4.out.alloc (.cells #[.int .i64 3,.int .i64 0,.string ⟨#[]⟩,.slice none 0 0] 70))
 have HR6:=Lib.hid (HR4.out.alloc (.cells #[.int .i64 3,.int .i64 0,.string ⟨#[]⟩,.slice none 0 0] 70))
 have HB6:Hid (Four (w5.alloc (.cells #[.int .i64 3,.int .i64 0,.string ⟨#[]⟩,.slice none 0 0] 70)) B 70 (.int .i64 3) (.int .i64 0) (.string ⟨#[]⟩) (.slice none 0 0)):=Lib.hid (by rw [hB]; exact Four.new w5 _ _ _ _ _)
 have HG6:Hid (w.grownBy (w5.alloc (.cells #[.int .i64 3,.int .i64 0,.string ⟨#[]⟩,.slice none 0 0] 70)) (some r)):=Lib.hid (grown_trans HG4.out (World.grownBy_alloc _ _ _))
 have hsz6:B+1≤(w5.alloc (.cells #[.int .i64 3,.int .i64 0,.string ⟨#[]⟩,.slice none 0 0] 70)).heap.size:=by simp; omega
 have hrB:r<B:=by have:=HRLT.out; omega
 clear HF4 HR4 HG4 hB hsz5
 generalize (w5.alloc (.cells #[.int .i64 3,.int .i64 0,.string ⟨#[]⟩,.slice none 0 0] 70))=w6 at *
 go_loopg [] (s.size+1 - (a+1)) (fun gk wr=>∃ (a' m':Nat) (acc:List V) (cells:List Value) (va:Option Addr) (vc:Nat),s.size<gk+a'∧a'≤s.size∧m'≤4000∧acc.length≤a'∧B+1≤wr.heap.size∧Hid (RdAt wr r s (a':Int) (m':Int) 0)∧Hid (Four wr w.heap.size 70 (.int .i64 0) (.int .i64 0) (.string ⟨#[]⟩) (.slice none 0 0))
  ∧ Hid (Four wr B 70 (.int .i64 3) (.int .i64 0) (.string ⟨#[]⟩) (.slice va acc.length vc))∧Hid (wr.ownsRow (B+1) 70 4 (.slice va acc.length vc) acc.length cells)∧Hid (RowOf wr (InRow (B+1) (.slice va acc.length vc) wr) acc cells)∧Hid (w.grownBy wr (some r))∧Hid (x=rdList rd s gk a' m' acc))
 case atStart=>exact⟨a+1,m+1,[],[],none,0,by omega,by omega,by omega,Nat.zero_le _,hsz6,HR6,HF6,HB6,Lib.hid (World.ownsRow_nil _ _ _ _),Lib.hid .nil,HG6,hx⟩
 case round =>
  obtain⟨a',m',acc,cells,va,vc,hgk,ha',hm',hacc,hsz,hR,hF,hB,hO,hRow,hG,hX⟩:=hrel
  clear hx HF6 HR6 HB6 HG6
  obtain⟨f,rfl⟩:∃ f,gk=f+1:=⟨gk - 1,by omega⟩
  have hst:=hX.out
  rw [rdList] at hst
  clear hX
  have hnow:=Lib.hid (now_any r s a' (m':Int) 0 wr hR.out (by omega) (nowL s a') (Lib.hid rfl))
  have hai2:(a':Int)≤131072:=by omega
  by_cases hend:s.data.toList[a']? = some 101
  ·rw [if_pos hend] at hst
   have hlt2:a'<s.size:=at_some hend
   have HQ:nowL s a'=101:=by rw [nowL,dif_pos hlt2,at_of hend hlt2]; rfl
   rw [HQ] at hnow
   have HST:=Lib.hid hst
   clear hend hst HQ
   go_wp2_with fail
   refine hnow.out.mono ?_
   rintro e w7 ⟨rfl,n7,rfl⟩
   have hr7:=hR.out.drewN n7
   have d1:=hr7.c1
   have k1:=hr7.free 1 (by decide)
   have HR8:Hid (RdAt ((wr.drewN n7).setCell ⟨r,1,none⟩ (.int .i64 ((a':Int)+1))) r s ((a'+1:Nat):Int) (m':Int) 0):=Lib.hid (by rw [Int.natCast_add]; exact hr7.setAt _)
   have hg9:wr.grownBy ((wr.drewN n7).setCell ⟨r,1,none⟩ (.int .i64 ((a':Int)+1))) (some r):=grown_drew_l (grown_setCell (wr.drewN n7) r 1 (.int .i64 ((a':Int)+1)))
   have HF8:=Lib.hid (hF.out.kept hg9 (by have:=HRLT.out; simp; omega))
   have HG8:=Lib.hid (grown_trans hG.out hg9)
   obtain⟨hO9,hRow9⟩:=row_kept hO.out hRow.out hg9 (by omega)
   have HO8:=Lib.hid hO9
   have HRow8:=Lib.hid hRow9
   have HB8:=Lib.hid (hB.out.kept hg9 (by simp; omega))
   clear hnow hr7 hg9 hO9 hRow9 hR hF hG hO hRow hB
   generalize wr.drewN n7=w7 at *
   have p0:=HB8.out.c0
   have p1:=HB8.out.c1
   have p2:=HB8.out.c2
   have p3:=HB8.out.c3
   have hbne:w.heap.size≠B:=by omega
   have b0:=HF8.out.c0
   have b1:=HF8.out.c1
   have b2:=HF8.out.c2
   have b3:=HF8.out.c3
   have g0:=HF8.out.free 0
   have g1:=HF8.out.free 1
   have g2:=HF8.out.free 2
   have g3:=HF8.out.free 3
   go_wp2_with fail
   have HF9:=HF8.out.all (.int .i64 3) (.int .i64 0) (.string ⟨#[]⟩) (.slice va acc.length vc)
   have hgf:=grown_four (w7.setCell ⟨r,1,none⟩ (.int .i64 ((a':Int)+1))) w.heap.size (.int .i64 3) (.int .i64 0) (.string ⟨#[]⟩) (.slice va acc.length vc)
   clear b0 b1 b2 b3 g0 g1 g2 g3 d1 k1 p0 p1 p2 p3
   generalize (((((w7.setCell ⟨r,1,none⟩ (.int .i64 ((a':Int)+1))).setCell ⟨w.heap.size,0,none⟩ (.int .i64 3)).setCell ⟨w.heap.size,1,none⟩ (.int .i64 0)).setCell ⟨w.heap.size,2,none⟩ (.string ⟨#[]⟩)).setCell ⟨w.heap.size,3,none⟩ (.slice va acc.length vc))=w10 at *
   have e0:=HF9.c0
   have e1:=HF9.c1
   have e2:=HF9.c2
   have e3:=HF9.c3
   (try simp only [Exit.inBlock,Exit.then])
   refine bodyPost_ret (v:=.agg #[.int .i64 3,.int .i64 0,.string ⟨#[]⟩,.slice va acc.length vc]) ?_ rfl ?_
   ·rw [results_cell_one rfl]; go_simp
   ·rw [HST.out]
    obtain⟨h1,h2⟩:=row_kept HO8.out HRow8.out hgf (by omega)
    obtain⟨a1,c1,h3,h4,h5,h6⟩:=own_vals h1 h2
    cases h3
    refine⟨_,rfl,⟨.mk 3 0 ⟨#[]⟩ acc,?_,fun _=>rfl⟩,HR8.out.kept hgf (by have:=HRLT.out; simp; omega),grown_fresh HG8.out hgf (Nat.le_refl _)⟩
    simp only [V.At]
    exact⟨va,vc,rfl,h4,h5,VAll.move (fun b (hb:_∧_)=>⟨by omega,hb.2⟩) (fun _ _=>rfl) _ _ _ h6⟩
  ·rw [if_neg hend] at hst
   have hcall:=IH.out a' m'
   have hgd:=hgood.out a' m' hm'
   have hbd:=hbadd.out a' m' ha' hm'
   generalize rd a' m'=z at *
   have HST:=Lib.hid hst
   have HC:=Lib.hid hcall
   have HGD:=Lib.hid hgd
   have HBD:=Lib.hid hbd
   have hne:(nowL s a' != 101)=true:=by
    rw [bne_iff_ne,nowL]
    split
    ·rename_i h2
     intro e
     exact hend (by rw [at_lt h2]; exact congrArg some (UInt8.toNat_inj.1 (show s[a'].toNat=101 by omega)))
    ·decide
   clear hst hcall hgd hbd hend
   generalize nowL s a'=q' at *
   go_wp2_with fail
   refine hnow.out.mono ?_
   rintro e w7 ⟨rfl,n7,rfl⟩
   go_wp2_with fail
   refine (HC.out _ (hR.out.drewN n7) ha' hm').mono ?_
   rintro e w1 ⟨cs,rfl,⟨y,hat,hok⟩,hr1,hg1⟩
   obtain⟨zv,zok,zat,zm,zbad⟩:=z
   obtain⟨vk,vn,vs,vl⟩:=y
   dsimp only at hr1 hok
   have HAT0:=hat
   simp only [V.At] at hat
   generalize hvl:vl.length=vm at *
   obtain⟨xa,xc,rfl,-,-,-⟩:=hat
   have HAT:=Lib.hid HAT0
   have HVM:=Lib.hid hvl
   have HOKY:=Lib.hid hok
   have hgw:wr.grownBy w1 (some r):=grown_drew_l hg1
   obtain⟨hO1,hRow1⟩:=row_kept hO.out hRow.out hgw (by omega)
   have HO1:=Lib.hid hO1
   have HRow1:=Lib.hid hRow1
   have HF1:=Lib.hid (hF.out.kept hgw (by have:=HRLT.out; simp; omega))
   have HB1:=Lib.hid (hB.out.kept hgw (by simp; omega))
   have HG1:=Lib.hid (grown_trans hG.out hgw)
   have HR1:=Lib.hid hr1
   have hvl1:∀ k,(Value.slice va acc.length vc).ownBlock=some k→k<wr.heap.size:=fun k hk=>(hO.out.lt k hk).2
   have hsz1:B+1≤w1.heap.size:=Nat.le_trans hsz hgw.size
   have hszw:wr.heap.size≤w1.heap.size:=hgw.size
   have HVL:=Lib.hid hvl1
   clear HAT0 hgw hO1 hRow1 hr1 hg1 hvl1 hnow hR hF hB hO hRow hG hok hvl
   have HF2:=Lib.hid (HF1.out.alloc (.cells #[.int .i64 vk,.int .i64 vn,.string vs,.slice xa vm xc] 70))
   have HB2:=Lib.hid (HB1.out.alloc (.cells #[.int .i64 vk,.int .i64 vn,.string vs,.slice xa vm xc] 70))
   have HR2:=Lib.hid (HR1.out.alloc (.cells #[.int .i64 vk,.int .i64 vn,.string vs,.slice xa vm xc] 70))
   have HG2:=Lib.hid (grown_trans HG1.out (World.grownBy_alloc w1 (.cells #[.int .i64 vk,.int .i64 vn,.string vs,.slice xa vm xc] 70) (some r)))
   have HN2:=Lib.hid (Four.new w1 70 (.int .i64 vk) (.int .i64 vn) (.string vs) (.slice xa vm xc))
   have d3:=HR2.out.c3
   by_cases hzok:zok=true
   ·subst hzok
    obtain⟨hbad,hyat,hyat2,hym⟩:=HGD.out rfl
    (try dsimp only at hbad hyat hyat2 hym)
    subst hbad
    have h4:∀ u∈[Value.int .i64 vk,.int .i64 vn,.string vs,.slice xa vm xc],u.oneCell'=true:=HAT.out.four.2
    have H4:=Lib.hid h4
    have HY:=Lib.hid (And.intro hyat (And.intro hyat2 hym))
    have hyv:=HOKY.out rfl
    (try dsimp only at hyv)
    have HX1:Hid (x=rdList rd s f zat zm (acc++[.mk vk vn vs vl])):=Lib.hid (by rw [HST.out,if_pos rfl,hyv])
    have e3:=HB2.out.c3
    have k3:=HB2.out.free 3
    have n0:=HN2.out.c0
    have n1:=HN2.out.c1
    have n2:=HN2.out.c2
    have n3:=HN2.out.c3
    clear hyat hyat2 hym h4 hyv HST
    go_wp2_with (at_builtin; refine Stop.go ?_)
    unfold Stop
    refine wpList_app4 _ rfl _ _ 68 rfl (B+1) 70 i0 _ 56 underV HI.out HZ.out.1 HZ.out.2.1 HZ.out.2.2 rfl _ acc.length cells (HO1.out.alloc _) rfl _ _ _ _ _ (w1.heap.size+1) (by simp) rfl H4.out (by unfold maxLen; omega) (by omega) (by simp; omega) ?_
    intro v3 w3 ho3 hg3 hs3 hob
    generalize hw2:w1.alloc (.cells #[.int .i64 vk,.int .i64 vn,.string vs,.slice xa vm xc] 70)=w2 at *
    have hgw2:∀ row,w1.grownBy w2 row:=fun row=>hw2 ▸ World.grownBy_alloc w1 _ row
    obtain⟨hO2,hRow2⟩:=row_kept HO1.out HRow1.out (hgw2 (some r)) (by omega)
    have hsz2:=(hgw2 none).size
    have hlt2:=hO2.lt
    have hat2:V.At w2 (fun b=>wr.heap.size≤b∧b<w2.heap.size) (.mk vk vn vs vl) [.int .i64 vk,.int .i64 vn,.string vs,.slice xa vm xc]:=V.At.move (fun b (hb:_∧_)=>⟨hb.1,Nat.lt_of_lt_of_le hb.2 hsz2⟩) (fun b (hb:_∧_)=>(hgw2 none).block b hb.2 (by simp)) _ _ HAT.out
    have hrow3:RowOf w3 (InRow (B+1) v3 w3) (acc++[.mk vk vn vs vl]) (cells++[.int .i64 vk,.int .i64 vn,.string vs,.slice xa vm xc]):=row_snoc hO2 hRow2 hat2 hsz HVL.out hg3 (hob.imp id fun e=>⟨_,e,by omega⟩)
    obtain⟨a3,c3,rfl,-⟩:=own_vals ho3 hrow3
    have hne2:∀ b,b<B+1→some b≠(Value.slice va acc.length vc).ownBlock:=fun b hb e=>by have:=(hlt2 b e.symm).1; omega
    have HF3:=Lib.hid (HF2.out.kept hg3 (hne2 _ (by omega)))
    have HB3:=Lib.hid (HB2.out.kept hg3 (hne2 _ (by omega)))
    have HR3:=Lib.hid (HR2.out.kept hg3 (hne2 _ (by omega)))
    have HG3:=Lib.hid (grown_own HG2.out hg3 (fun b e=>by have:=(hlt2 b e).1; omega))
    have hlen:(acc++[V.mk vk vn vs vl]).length=acc.length+1:=by simp
    rw [hlen] at ho3 hrow3
    have HO3:=Lib.hid ho3
    have HRow3:=Lib.hid hrow3
    have hsz3:B+1≤w3.heap.size:=by omega
    have HLEN:=Lib.hid hlen
    clear e3 k3 n0 n1 n2 n3 d3 ho3 hrow3 hg3 hob hat2 hO2 hRow2 hlt2 hgw2 hw2 hne2 hs3 hlen
    have e3:=HB3.out.c3
    have k3:=HB3.out.free 3
    go_wp2_with fail
    go_roundg f
    case rel =>
     have hg4:=grown_setCell w3 B 3 (.slice a3 (acc.length+1) c3)
     obtain⟨h5,h6⟩:=row_kept HO3.out HRow3.out hg4 (by omega)
     refine⟨zat,zm,acc++[.mk vk vn vs vl],cells++[.int .i64 vk,.int .i64 vn,.string vs,.slice xa vm xc],a3,c3,?_,?_,?_,?_,?_,Lib.hid (HR3.out.kept hg4 (by simp; omega)),Lib.hid (HF3.out.kept hg4 (by simp; omega)),?_,?_,?_,Lib.hid (grown_fresh HG3.out hg4 (by omega)),HX1⟩
     ·have:=HY.out; omega
     ·exact HY.out.2.1
     ·exact HY.out.2.2
     ·rw [HLEN.out]; have:=HY.out; omega
     ·simp; exact hsz3
     ·rw [HLEN.out]; exact Lib.hid (HB3.out.set3 _)
     ·rw [HLEN.out]; exact Lib.hid h5
     ·rw [HLEN.out]; exact Lib.hid h6
    case measure=>omega
   ·have hzb:=(HBD.out hzok).1
    (try dsimp only at hzb)
    have r1:(zbad != 0)=true:=by simpa using hzb
    have r2:(zbad==0)=false:=by simpa using hzb
    have HX1:Hid (x=Rd.no zat zm zbad):=Lib.hid (by rw [HST.out,if_neg hzok])
    clear HST HGD HBD hzb hzok
    have b0:=HF2.out.c0
    have b1:=HF2.out.c1
    have b2:=HF2.out.c2
    have b3:=HF2.out.c3
    have g0:=HF2.out.free 0
    have g1:=HF2.out.free 1
    have g2:=HF2.out.free 2
    have g3:=HF2.out.free 3
    go_wp2_with fail
    have HF9:=HF2.out.all (.int .i64 0) (.int .i64 0) (.string ⟨#[]⟩) (.slice none 0 0)
    have hgf:=grown_four (w1.alloc (.cells #[.int .i64 vk,.int .i64 vn,.string vs,.slice xa vm xc] 70)) w.heap.size (.int .i64 0) (.int .i64 0) (.string ⟨#[]⟩) (.slice none 0 0)
    clear b0 b1 b2 b3 g0 g1 g2 g3 d3
    generalize (((((w1.alloc (.cells #[.int .i64 vk,.int .i64 vn,.string vs,.slice xa vm xc] 70)).setCell ⟨w.heap.size,0,none⟩ (.int .i64 0)).setCell ⟨w.heap.size,1,none⟩ (.int .i64 0)).setCell ⟨w.heap.size,2,none⟩ (.string ⟨#[]⟩)).setCell ⟨w.heap.size,3,none⟩ (.slice none 0 0))=w10 at *
    have e0:=HF9.c0
    have e1:=HF9.c1
    have e2:=HF9.c2
    have e3:=HF9.c3
    (try simp only [Exit.inBlock,Exit.then])
    refine bodyPost_ret (v:=.agg #[.int .i64 0,.int .i64 0,.string ⟨#[]⟩,.slice none 0 0]) ?_ rfl ?_
    ·rw [results_cell_one rfl]; go_simp
    ·rw [HX1.out]
     exact⟨_,rfl,⟨zeroV,zeroV_at _ _,fun h=>by cases h⟩,HR2.out.kept hgf (by have:=HRLT.out; simp; omega),grown_fresh HG2.out hgf (Nat.le_refl _)⟩
end Go.Proofs.YtlpgbmaoenncjaaGreatDoor
namespace Go.Proofs.YtlpgbmaoenncjaaGreatDoor
open Go.RowKit
set_option linter.unusedVariables false
theorem not_digit {n:Nat}(h:¬ (48≤n∧n≤57)):false=(decide ((48:Int)≤(n:Int))&&decide ((n:Int)≤57)):=by
 rcases Nat.lt_or_ge n 48 with h3 | h3
 ·rw [decide_eq_false (show ¬ (48:Int)≤(n:Int) by omega)]; rfl
 ·rw [decide_eq_false (show ¬ (n:Int)≤57 from fun h4=>h ⟨h3,by omega⟩),Bool.and_false]
theorem bne_t {x y:Int}(h:x≠y):(x != y)=true:=by simpa using h
theorem rvalue_any (r:Nat) (s:ByteArray) (hs:s.size≤131072):∀ (d:Nat) (k:Int),k+(d:Int)=30→0≤k→∀ (a m:Nat) (w:World),RdAt w r s a m 0→a≤s.size→m≤4000 →
 Calls Tryz.prog 94 #[.pointer (some ⟨r,0,none⟩),.int .i64 k] w (RfPost r s w (rdValue s d a m)):=by
 intro d
 induction d with
 | zero =>
   intro k hk hk0 a m w h ha hm
   rw [rdValue]
   by_cases hlt:a<s.size
   ·rw [at_lt hlt]
    dsimp only
    have hq:nowL s a=(s[a].toNat:Int):=by rw [nowL,dif_pos hlt]
    by_cases hb:begins s[a]=true
    ·rw [if_pos hb]
     by_cases h1:s[a]=105
     ·exact rv_deep_i r s k a m w h hs ha 105 (Lib.hid (by rw [hq,h1]; rfl)) rfl rfl (by omega)
     ·by_cases h2:s[a]=108
      ·exact rv_deep_l r s k a m w h hs ha 108 (Lib.hid (by rw [hq,h2]; rfl)) rfl rfl rfl (by omega)
      ·have h3:48≤s[a].toNat∧s[a].toNat≤57:=by simpa [begins,h1,h2] using hb
       exact rv_deep_d r s k a m w h hs ha (s[a].toNat:Int) (Lib.hid hq.symm) (bne_t (by omega)) (bne_t (by omega)) (by rw [beq_eq_false_iff_ne]; omega) (Lib.hid (by rw [decide_eq_true (show (48:Int)≤(s[a].toNat:Int) by omega),decide_eq_true (show (s[a].toNat:Int)≤57 by omega)]; rfl)) (by omega)
    ·rw [if_neg hb]
     have h1:s[a]≠105:=fun e=>hb (by rw [e]; rfl)
     have h2:s[a]≠108:=fun e=>hb (by rw [e]; rfl)
     have h3:¬ (48≤s[a].toNat∧s[a].toNat≤57):=fun e=>hb (by simp [begins,e.1,e.2])
     have:=rv_wrong r s k a m w h hs ha (s[a].toNat:Int) (Lib.hid hq.symm) (bne_t (fun e=>h1 (UInt8.toNat_inj.1 (show s[a].toNat=105 by omega)))) (bne_t (fun e=>h2 (UInt8.toNat_inj.1 (show s[a].toNat=108 by omega)))) (Lib.hid (not_digit h3))
     rwa [wrongL,if_pos hlt] at this
   ·rw [at_ge hlt]
    have:=rv_wrong r s k a m w h hs ha (-1) (Lib.hid (by rw [nowL,dif_neg hlt])) rfl rfl (Lib.hid rfl)
    rwa [wrongL,if_neg hlt] at this
 | succ d ih =>
   intro k hk hk0 a m w h ha hm
   rw [rdValue]
   by_cases hlt:a<s.size
   ·rw [at_lt hlt]
    dsimp only
    have hq:nowL s a=(s[a].toNat:Int):=by rw [nowL,dif_pos hlt]
    by_cases hb:begins s[a]=true
    ·rw [if_pos hb]
     by_cases h1:s[a]=105
     ·by_cases hmm:4000≤m
      ·rw [if_pos hmm]; exact rv_long_i r s k a m w h hs ha 105 (Lib.hid (by rw [hq,h1]; rfl)) rfl rfl (by omega) (by omega)
      ·rw [if_neg hmm,if_pos h1]; exact rv_num r s k a m w h hs ha 105 (Lib.hid (by rw [hq,h1]; rfl)) rfl rfl hlt (by omega) (by omega) _ (Lib.hid rfl)
     ·by_cases h2:s[a]=108
      ·by_cases hmm:4000≤m
       ·rw [if_pos hmm]; exact rv_long_l r s k a m w h hs ha 108 (Lib.hid (by rw [hq,h2]; rfl)) rfl rfl rfl (by omega) (by omega)
       ·rw [if_neg hmm,if_neg h1,if_pos h2]
        exact rv_list r s k a m w h hs ha 108 (Lib.hid (by rw [hq,h2]; rfl)) rfl rfl rfl hlt (by omega) hk0 (by omega) (rdValue s d) (Lib.hid fun a m hm=>rdValue_good s d a m hm) (Lib.hid fun a m ha hm=>rdValue_no s d a m ha hm) (Lib.hid (ih (k+1) (by omega) (by omega))) _ (Lib.hid rfl)
      ·have h3:48≤s[a].toNat∧s[a].toNat≤57:=by simpa [begins,h1,h2] using hb
       have e1:=bne_t (x:=(s[a].toNat:Int)) (y:=105) (by omega)
       have e2:=bne_t (x:=(s[a].toNat:Int)) (y:=108) (by omega)
       have e3:((s[a].toNat:Int)==105)=false:=by rw [beq_eq_false_iff_ne]; omega
       have e4:Hid (true=(decide ((48:Int)≤(s[a].toNat:Int))&&decide ((s[a].toNat:Int)≤57))):=Lib.hid (by rw [decide_eq_true (show (48:Int)≤(s[a].toNat:Int) by omega),decide_eq_true (show (s[a].toNat:Int)≤57 by omega)]; rfl)
       by_cases hmm:4000≤m
       ·rw [if_pos hmm]; exact rv_long_d r s k a m w h hs ha (s[a].toNat:Int) (Lib.hid hq.symm) e1 e2 e3 e4 (by omega) (by omega)
       ·rw [if_neg hmm,if_neg h1,if_neg h2]; exact rv_text r s k a m w h hs ha (s[a].toNat:Int) (Lib.hid hq.symm) e1 e2 e3 e4 hlt (by omega) (by omega) _ (Lib.hid rfl)
    ·rw [if_neg hb]
     have h1:s[a]≠105:=fun e=>hb (by rw [e]; rfl)
     have h2:s[a]≠108:=fun e=>hb (by rw [e]; rfl)
     have h3:¬ (48≤s[a].toNat∧s[a].toNat≤57):=fun e=>hb (by simp [begins,e.1,e.2])
     have:=rv_wrong r s k a m w h hs ha (s[a].toNat:Int) (Lib.hid hq.symm) (bne_t (fun e=>h1 (UInt8.toNat_inj.1 (show s[a].toNat=105 by omega)))) (bne_t (fun e=>h2 (UInt8.toNat_inj.1 (show s[a].toNat=108 by omega)))) (Lib.hid (not_digit h3))
     rwa [wrongL,if_pos hlt] at this
   ·rw [at_ge hlt]
    have:=rv_wrong r s k a m w h hs ha (-1) (Lib.hid (by rw [nowL,dif_neg hlt])) rfl rfl (Lib.hid rfl)
    rwa [wrongL,if_neg hlt] at this
set_option maxRecDepth 20000 in
set_option maxHeartbeats 1000000 in
theorem rget_long (s:ByteArray) (w:World) (hm:s.size≤9223372036854775807) (h:131072<s.size) :
 Calls Tryz.prog 45 #[.string s] w (GetPost w ⟨zeroV,2,0⟩):=by
 have hi:(131072:Int)<(s.size:Int):=by omega
 have HF:Hid (Four (w.alloc (.cells #[.int .i64 0,.int .i64 0,.string ⟨#[]⟩,.slice none 0 0] 70)) w.heap.size 70 (.int .i64 0) (.int .i64 0) (.string ⟨#[]⟩) (.slice none 0 0)):=Lib.hid (Four.new w _ _ _ _ _)
 have HB:=Lib.hid ((Below.refl w.heap.size w).alloc (Nat.le_refl _) (.cells #[.int .i64 0,.int .i64 0,.string ⟨#[]⟩,.slice none 0 0] 70))
 have b0:=HF.out.c0
 have b1:=HF.out.c1
 have b2:=HF.out.c2
 have b3:=HF.out.c3
 have g0:=HF.out.free 0
 have g1:=HF.out.free 1
 have g2:=HF.out.free 2
 have g3:=HF.out.free 3
 go_enter Tryz.func45,Tryz.ntmps45
 go_wp2_with fail
 clear b0 b1 b2 b3 g0 g1 g2 g3
 generalize (w.alloc (.cells #[.int .i64 0,.int .i64 0,.string ⟨#[]⟩,.slice none 0 0] 70))=w9 at *
 have e0:=HF.out.c0
 have e1:=HF.out.c1
 have e2:=HF.out.c2
 have e3:=HF.out.c3
 (try simp only [Exit.inBlock,Exit.then])
 refine bodyPost_ret (v:=.tuple #[.agg #[.int .i64 0,.int .i64 0,.string ⟨#[]⟩,.slice none 0 0],.int .i64 2,.int .i64 0]) ?_ rfl ?_
 ·rw [results_cell_tmps rfl]; go_simp
 ·exact⟨_,rfl,zeroV_at _ _,HB.out⟩
set_option maxRecDepth 20000 in
set_option maxHeartbeats 2000000 in
theorem rget_short (s:ByteArray) (w:World) (h:s.size≤131072) (y:Rd) (hy:Hid (y=rdValue s 30 0 0)) (g:Got) (hg:Hid (g=(if y.ok=true then (if y.at_<s.size then ⟨zeroV,11,y.at_⟩ else ⟨y.v,0,0⟩) else ⟨zeroV,y.bad,y.at_⟩))) :
 Calls Tryz.prog 45 #[.string s] w (GetPost w g):=by
 have hi:(s.size:Int)≤131072:=by omega
 have hcall:=Lib.hid (fun (w0:World) (h0:RdAt w0 (w.heap.size+1) s 0 0 0)=>hy.out ▸ rvalue_any (w.heap.size+1) s h 30 0 (by decide) (by decide) 0 0 w0 h0 (Nat.zero_le _) (Nat.zero_le _))
 have hgood:=rdValue_good s 30 0 0 (by decide)
 have hno:=rdValue_no s 30 0 0 (Nat.zero_le _) (by decide)
 rw [← hy.out] at hgood hno
 have HGD:=Lib.hid hgood
 have HNO:=Lib.hid hno
 clear hgood hno hy
 have HF0:Hid (Four (w.alloc (.cells #[.int .i64 0,.int .i64 0,.string ⟨#[]⟩,.slice none 0 0] 70)) w.heap.size 70 (.int .i64 0) (.int .i64 0) (.string ⟨#[]⟩) (.slice none 0 0)):=Lib.hid (Four.new w _ _ _ _ _)
 have HB0:=Lib.hid ((Below.refl w.heap.size w).alloc (Nat.le_refl _) (.cells #[.int .i64 0,.int .i64 0,.string ⟨#[]⟩,.slice none 0 0] 70))
 have hsz0:(w.alloc (.cells #[.int .i64 0,.int .i64 0,.string ⟨#[]⟩,.slice none 0 0] 70)).heap.size=w.heap.size+1:=by simp
 go_enter Tryz.func45,Tryz.ntmps45
 go_wp2_with fail
 have HF1:=Lib.hid (HF0.out.alloc (.cells #[.string s,.int .i64 0,.int .i64 0,.int .i64 0] 145))
 have HB1:=Lib.hid (HB0.out.alloc (by simp) (.cells #[.string s,.int .i64 0,.int .i64 0,.int .i64 0] 145))
 have HN1:=Four.new (w.alloc (.cells #[.int .i64 0,.int .i64 0,.string ⟨#[]⟩,.slice none 0 0] 70)) 145 (.string s) (.int .i64 0) (.int .i64 0) (.int .i64 0)
 have hsz1:((w.alloc (.cells #[.int .i64 0,.int .i64 0,.string ⟨#[]⟩,.slice none 0 0] 70)).alloc (.cells #[.string s,.int .i64 0,.int .i64 0,.int .i64 0] 145)).heap.size=w.heap.size+2:=by simp
 have hr1:RdAt ((w.alloc (.cells #[.int .i64 0,.int .i64 0,.string ⟨#[]⟩,.slice none 0 0] 70)).alloc (.cells #[.string s,.int .i64 0,.int .i64 0,.int .i64 0] 145)) (w.heap.size+1) s 0 0 0:=by
  rw [hsz0] at HN1
  exact⟨by rw [hsz1]; omega,HN1.c0,HN1.c1,HN1.c2,HN1.c3,fun j _=>HN1.free j⟩
 refine (hcall.out _ hr1).mono ?_
 rintro e w1 ⟨cs,rfl,⟨yv,hat,hok⟩,hr2,hg2⟩
 clear hr1 HN1 hcall HF0 HB0 hsz0
 have HF2:=Lib.hid (HF1.out.kept hg2 (by simp))
 have HB2:=Lib.hid (HB1.out.grown hg2 (by rw [hsz1]; omega) (fun k e=>by cases e; omega))
 have hsz2:=hg2.size
 have HR2:=Lib.hid hr2
 rw [hsz1] at hsz2
 clear hr2 hg2 HF1 HB1
 obtain⟨⟨zk,zn,zs,zl⟩,yok,yat,ym,ybad⟩:=y
 obtain⟨vk,vn,vs,vl⟩:=yv
 have hat':=V.At.move (T:=fun b=>w.heap.size+1≤b∧b<w1.heap.size) (fun b (hb:_∧_)=>⟨by have:=hb.1; omega,hb.2⟩) (fun _ _=>rfl) _ _ hat
 clear hsz1
 generalize hvm:vl.length=vm at *
 have HVM:=Lib.hid hvm
 simp only [V.At] at hat
 rw [hvm] at hat
 obtain⟨xa,xc,rfl,-,-,-⟩:=hat
 have HAT:=Lib.hid hat'
 have HOK:=Lib.hid hok
 clear hat' hok hvm
 have hst:=hg.out
 clear hg
 have HF3:=Lib.hid (HF2.out.alloc (.cells #[.int .i64 vk,.int .i64 vn,.string vs,.slice xa vm xc] 70))
 have HN3:=Lib.hid (Four.new w1 70 (.int .i64 vk) (.int .i64 vn) (.string vs) (.slice xa vm xc))
 have HR3:=Lib.hid (HR2.out.alloc (.cells #[.int .i64 vk,.int .i64 vn,.string vs,.slice xa vm xc] 70))
 have HB3:=Lib.hid (HB2.out.alloc (by omega) (.cells #[.int .i64 vk,.int .i64 vn,.string vs,.slice xa vm xc] 70))
 have HK:Hid (w1.grownBy (w1.alloc (.cells #[.int .i64 vk,.int .i64 vn,.string vs,.slice xa vm xc] 70)) none):=Lib.hid (World.grownBy_alloc w1 _ none)
 have b0:=HF3.out.c0
 have b1:=HF3.out.c1
 have b2:=HF3.out.c2
 have b3:=HF3.out.c3
 have g0:=HF3.out.free 0
 have g1:=HF3.out.free 1
 have g2:=HF3.out.free 2
 have g3:=HF3.out.free 3
 have d1:=HR3.out.c1
 have d3:=HR3.out.c3
 have n0:=HN3.out.c0
 have n1:=HN3.out.c1
 have n2:=HN3.out.c2
 have n3:=HN3.out.c3
 by_cases hyok:yok=true
 ·subst hyok
  obtain⟨hbad,hyat,hyat2,hym⟩:=HGD.out rfl
  dsimp only at hbad hyat hyat2 hym
  subst hbad
  by_cases hat:yat<s.size
  ·have HST:Hid (g=⟨zeroV,11,yat⟩):=Lib.hid (by rw [hst,if_pos rfl,if_pos hat])
   have hati:(yat:Int)<(s.size:Int):=by omega
   have k3:=HR3.out.free 3 (by decide)
   clear hst
   have HR5:=Lib.hid (HR3.out.setBad 11)
   have hg5:=grown_setCell (w1.alloc (.cells #[.int .i64 vk,.int .i64 vn,.string vs,.slice xa vm xc] 70)) (w.heap.size+1) 3 (.int .i64 11)
   have HF5:=Lib.hid (HF3.out.kept hg5 (by simp))
   have HB5:=Lib.hid (HB3.out.grown hg5 (by simp; omega) (fun k e=>by cases e; omega))
   have hsz5:=hg5.size
   rw [World.size_alloc] at hsz5
   clear hg5 b0 b1 b2 b3 g0 g1 g2 g3
   go_wp2_with fail
   clear n0 n1 n2 n3 d1 d3 k3 HR3 HF3 HB3 HN3 HK
   generalize ((w1.alloc (.cells #[.int .i64 vk,.int .i64 vn,.string vs,.slice xa vm xc] 70)).setCell ⟨w.heap.size+1,3,none⟩ (.int .i64 11))=w9 at *
   have b0:=HF5.out.c0
   have b1:=HF5.out.c1
   have b2:=HF5.out.c2
   have b3:=HF5.out.c3
   have g0:=HF5.out.free 0
   have g1:=HF5.out.free 1
   have g2:=HF5.out.free 2
   have g3:=HF5.out.free 3
   have d1:=HR5.out.c1
   have d3:=HR5.out.c3
   go_region
   (try simp only [Exit.then])
   go_wp2_with fail
   have n0:=0
   have n1:=0
   have n2:=0
   have n3:=0
   have HF4:=HF5.out.all (.int .i64 0) (.int .i64 0) (.string ⟨#[]⟩) (.slice none 0 0)
   have hgf:=grown_four w9 w.heap.size (.int .i64 0) (.int .i64 0) (.string ⟨#[]⟩) (.slice none 0 0)
   have HB4:=Lib.hid (HB5.out.grown hgf (by omega) (fun k e=>by cases e; exact Nat.le_refl _))
   clear b0 b1 b2 b3 g0 g1 g2 g3 n0 n1 n2 n3 d1 d3
   generalize ((((w9.setCell ⟨w.heap.size,0,none⟩ (.int .i64 0)).setCell ⟨w.heap.size,1,none⟩ (.int .i64 0)).setCell ⟨w.heap.size,2,none⟩ (.string ⟨#[]⟩)).setCell ⟨w.heap.size,3,none⟩ (.slice none 0 0))=w10 at *
   have HF4:Four w10.drew w.heap.size 70 (.int .i64 0) (.int .i64 0) (.string ⟨#[]⟩) (.slice none 0 0):=HF4
   have HB4:Hid (Below w.heap.size w w10.drew):=Lib.hid HB4.out.drew
   generalize w10.drew=w11 at *
   have e0:=HF4.c0
   have e1:=HF4.c1
   have e2:=HF4.c2
   have e3:=HF4.c3
   (try simp only [Exit.inBlock,Exit.then])
   refine bodyPost_ret (v:=.tuple #[.agg #[.int .i64 0,.int .i64 0,.string ⟨#[]⟩,.slice none 0 0],.int .i64 11,.int .i64 (yat:Int)]) ?_ rfl ?_
   ·rw [results_cell_tmps rfl]; go_simp
   ·rw [HST.out]; exact⟨_,rfl,zeroV_at _ _,HB4.out⟩
  ·have hv:V.mk vk vn vs vl=V.mk zk zn zs zl:=HOK.out rfl
   have HST:Hid (g=⟨.mk vk vn vs vl,0,0⟩):=Lib.hid (by rw [hst,if_pos rfl,if_neg hat,hv])
   have hati:(s.size:Int)≤(yat:Int):=by omega
   clear hv
   clear hst
   go_wp2_with fail
   have HF4:=HF3.out.all (.int .i64 vk) (.int .i64 vn) (.string vs) (.slice xa vm xc)
   have hgf:=grown_four (w1.alloc (.cells #[.int .i64 vk,.int .i64 vn,.string vs,.slice xa vm xc] 70)) w.heap.size (.int .i64 vk) (.int .i64 vn) (.string vs) (.slice xa vm xc)
   have HB4:=Lib.hid (HB3.out.grown hgf (by simp; omega) (fun k e=>by cases e; exact Nat.le_refl _))
   clear b0 b1 b2 b3 g0 g1 g2 g3 n0 n1 n2 n3 d1 d3
   generalize (((((w1.alloc (.cells #[.int .i64 vk,.int .i64 vn,.string vs,.slice xa vm xc] 70)).setCell ⟨w.heap.size,0,none⟩ (.int .i64 vk)).setCell ⟨w.heap.size,1,none⟩ (.int .i64 vn)).setCell ⟨w.heap.size,2,none⟩ (.string vs)).setCell ⟨w.heap.size,3,none⟩ (.slice xa vm xc))=w10 at *
   have e0:=HF4.c0
   have e1:=HF4.c1
   have e2:=HF4.c2
   have e3:=HF4.c3
   (try simp only [Exit.inBlock,Exit.then])
   refine bodyPost_ret (v:=.tuple #[.agg #[.int .i64 vk,.int .i64 vn,.string vs,.slice xa vm xc],.int .i64 0,.int .i64 0]) ?_ rfl ?_
   ·rw [results_cell_tmps rfl]; go_simp
   ·rw [HST.out]; exact⟨_,rfl,V.At.move (fun b (hb:_∧_)=>⟨Nat.le_of_succ_le hb.1,Nat.lt_of_lt_of_le hb.2 (Nat.le_trans HK.out.size hgf.size)⟩) (fun b (hb:_∧_)=>(hgf.block b (Nat.lt_of_lt_of_le hb.2 HK.out.size) (by have:=hb.1; simp; omega)).trans (HK.out.block b hb.2 (by simp))) _ _ HAT.out,HB4.out⟩
 ·have hb:=HNO.out hyok
  have hb1:ybad≠0:=hb.1
  have q1:(ybad != 0)=true:=by simpa using hb1
  have q2:(ybad==0)=false:=by simpa using hb1
  have HST:Hid (g=⟨zeroV,ybad,yat⟩):=Lib.hid (by rw [hst,if_neg hyok])
  clear hst hb hb1 hyok
  go_wp2_with fail
  go_region
  (try simp only [Exit.then])
  go_wp2_with fail
  have HF4:=HF3.out.all (.int .i64 0) (.int .i64 0) (.string ⟨#[]⟩) (.slice none 0 0)
  have hgf:=grown_four (w1.alloc (.cells #[.int .i64 vk,.int .i64 vn,.string vs,.slice xa vm xc] 70)) w.heap.size (.int .i64 0) (.int .i64 0) (.string ⟨#[]⟩) (.slice none 0 0)
  have HB4:=Lib.hid (HB3.out.grown hgf (by simp; omega) (fun k e=>by cases e; exact Nat.le_refl _))
  clear b0 b1 b2 b3 g0 g1 g2 g3 n0 n1 n2 n3 d1 d3
  generalize (((((w1.alloc (.cells #[.int .i64 vk,.int .i64 vn,.string vs,.slice xa vm xc] 70)).setCell ⟨w.heap.size,0,none⟩ (.int .i64 0)).setCell ⟨w.heap.size,1,none⟩ (.int .i64 0)).setCell ⟨w.heap.size,2,none⟩ (.string ⟨#[]⟩)).setCell ⟨w.heap.size,3,none⟩ (.slice none 0 0))=w10 at *
  have HF4:Four w10.drew w.heap.size 70 (.int .i64 0) (.int .i64 0) (.string ⟨#[]⟩) (.slice none 0 0):=HF4
  have HB4:Hid (Below w.heap.size w w10.drew):=Lib.hid HB4.out.drew
  generalize w10.drew=w11 at *
  have e0:=HF4.c0
  have e1:=HF4.c1
  have e2:=HF4.c2
  have e3:=HF4.c3
  (try simp only [Exit.inBlock,Exit.then])
  refine bodyPost_ret (v:=.tuple #[.agg #[.int .i64 0,.int .i64 0,.string ⟨#[]⟩,.slice none 0 0],.int .i64 ybad,.int .i64 (yat:Int)]) ?_ rfl ?_
  ·rw [results_cell_tmps rfl]; go_simp
  ·rw [HST.out]; exact⟨_,rfl,zeroV_at _ _,HB4.out⟩
theorem rget_any (s:ByteArray) (w:World) (hm:s.size≤9223372036854775807):Calls Tryz.prog 45 #[.string s] w (GetPost w (getL s)):=by
 unfold getL
 by_cases h:131072<s.size
 ·rw [if_pos h]; exact rget_long s w hm h
 ·rw [if_neg h]; exact rget_short s w (by omega) _ (Lib.hid rfl) _ (Lib.hid rfl)
end Go.Proofs.YtlpgbmaoenncjaaGreatDoor

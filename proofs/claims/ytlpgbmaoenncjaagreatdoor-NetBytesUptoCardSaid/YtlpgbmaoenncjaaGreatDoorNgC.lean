/-
  The walk of net.Get: any text is read as just that message, or refused. (Written by wip/mkng2.py.)
-/
import Derived.Test.YtlpgbmaoenncjaaGreatDoorNgK
import Derived.Test.YtlpgbmaoenncjaaGreatDoorNmG
import Derived.Test.YtlpgbmaoenncjaaGreatDoorNpN
import Derived.Test.YtlpgbmaoenncjaaGreatDoorCvGet
import Derived.Laws.ResultCell
namespace Go.Proofs.YtlpgbmaoenncjaaGreatDoor
open Go.RowKit
set_option linter.unusedVariables false
def RetM (w:World) (x:Ms × Int) (e:Ending) (w':World):Prop :=
 ∃ (ar:Option Addr) (nr cr:Nat) (av:Option Addr) (nv cv:Nat),e = .returned (.tuple #[x.1.val ar nr cr av nv cv,.int .i64 x.2])∧MsAt w' x.1 ar nr cr av nv cv∧Below w.heap.size w w'∧(∀ y,ar=some y→w.heap.size≤y.block)∧(∀ y,av=some y→w.heap.size≤y.block)
theorem msAt_zero (w:World):MsAt w Ms.zero none 0 0 none 0 0 where
 recs:=⟨rfl,.inl rfl⟩
 voters:=⟨rfl,.inl rfl⟩
 nr:=Nat.zero_le _
 nv:=Nat.zero_le _
 data:=fun r hr=>by cases hr
 snap:=Nat.zero_le _
 nums:=by unfold i64R Ms.zero; decide
 vots:=fun x hx=>by cases hx
theorem retM_zero {w w':World}(b:Int) (hb:Below w.heap.size w w'):RetM w (Ms.zero,b) (.returned (.tuple #[.agg #[.int .i64 0,.int .i64 0,.int .i64 0,.int .i64 0,.bool false,.int .i64 0,.int .i64 0,.slice none 0 0,.int .i64 0,.string ⟨#[]⟩,.slice none 0 0],.int .i64 b])) w':=⟨none,0,0,none,0,0,rfl,msAt_zero w',hb,fun y h=>(by cases h),fun y h=>(by cases h)⟩
theorem blk_eleven {w:World}{g:Nat}{t:TypeId}{a0 a1 a2 a3 a4 a5 a6 a7 a8 a9 a10:Value}(h:Blk w g t [a0,a1,a2,a3,a4,a5,a6,a7,a8,a9,a10]) (b0 b1 b2 b3 b4 b5 b6 b7 b8 b9 b10:Value) :
 Blk (((((((((((w.setCell ⟨g,0,none⟩ b0).setCell ⟨g,1,none⟩ b1).setCell ⟨g,2,none⟩ b2).setCell ⟨g,3,none⟩ b3).setCell ⟨g,4,none⟩ b4).setCell ⟨g,5,none⟩ b5).setCell ⟨g,6,none⟩ b6).setCell ⟨g,7,none⟩ b7).setCell ⟨g,8,none⟩ b8).setCell ⟨g,9,none⟩ b9).setCell ⟨g,10,none⟩ b10) g t [b0,b1,b2,b3,b4,b5,b6,b7,b8,b9,b10] :=
 ((((((((((h.set 0 b0).set 1 b1).set 2 b2).set 3 b3).set 4 b4).set 5 b5).set 6 b6).set 7 b7).set 8 b8).set 9 b9).set 10 b10
theorem grown_eleven (w:World) (g:Nat) (b0 b1 b2 b3 b4 b5 b6 b7 b8 b9 b10:Value) :
 w.grownBy (((((((((((w.setCell ⟨g,0,none⟩ b0).setCell ⟨g,1,none⟩ b1).setCell ⟨g,2,none⟩ b2).setCell ⟨g,3,none⟩ b3).setCell ⟨g,4,none⟩ b4).setCell ⟨g,5,none⟩ b5).setCell ⟨g,6,none⟩ b6).setCell ⟨g,7,none⟩ b7).setCell ⟨g,8,none⟩ b8).setCell ⟨g,9,none⟩ b9).setCell ⟨g,10,none⟩ b10) (some g) :=
 grown_trans (grown_trans (grown_trans (grown_trans (grown_trans (grown_trans (grown_trans (grown_trans (grown_trans (grown_trans (grown_setCell _ _ _ _) (grown_setCell _ _ _ _)) (grown_setCell _ _ _ _)) (grown_setCell _ _ _ _)) (grown_setCell _ _ _ _)) (grown_setCell _ _ _ _)) (grown_setCell _ _ _ _)) (grown_setCell _ _ _ _)) (grown_setCell _ _ _ _)) (grown_setCell _ _ _ _)) (grown_setCell _ _ _ _)
set_option maxRecDepth 100000 in
set_option maxHeartbeats 2000000 in
theorem nget_bad (s:ByteArray) (w:World) (hm:s.size≤9223372036854775807) (hbad:(getL s).bad≠0):Calls Tryz.prog 14 #[.string s] w (RetM w (Ms.zero,(getL s).bad)):=by
 have HG:=Lib.hid (get_any s (w.alloc (.cells #[.int .i64 0,.int .i64 0,.int .i64 0,.int .i64 0,.bool false,.int .i64 0,.int .i64 0,.slice none 0 0,.int .i64 0,.string ⟨#[]⟩,.slice none 0 0] 25)) hm)
 have HB0:=Lib.hid ((Below.refl w.heap.size w).alloc (Nat.le_refl _) (.cells #[.int .i64 0,.int .i64 0,.int .i64 0,.int .i64 0,.bool false,.int .i64 0,.int .i64 0,.slice none 0 0,.int .i64 0,.string ⟨#[]⟩,.slice none 0 0] 25))
 have HR0:Hid (Blk (w.alloc (.cells #[.int .i64 0,.int .i64 0,.int .i64 0,.int .i64 0,.bool false,.int .i64 0,.int .i64 0,.slice none 0 0,.int .i64 0,.string ⟨#[]⟩,.slice none 0 0] 25)) w.heap.size 25 [.int .i64 0,.int .i64 0,.int .i64 0,.int .i64 0,.bool false,.int .i64 0,.int .i64 0,.slice none 0 0,.int .i64 0,.string ⟨#[]⟩,.slice none 0 0]):=Lib.hid (heap_alloc_new w _)
 obtain⟨b,hb⟩:∃ b,b=(getL s).bad:=⟨_,rfl⟩
 have p1:(b != 0)=true:=by rw [hb]; simpa using hbad
 have HBE:=Lib.hid hb
 clear hbad
 go_enter Tryz.func14,Tryz.ntmps14
 go_wp2_with fail
 refine HG.out.mono ?_
 rintro e w1 ⟨cs,rfl,hat,hb1⟩
 dsimp only
 rw [← hb]
 clear hb
 obtain⟨v,hv⟩:∃ v,v=(getL s).v:=⟨_,rfl⟩
 rw [← hv] at hat
 clear hv
 obtain⟨vk,vn,vt,vl⟩:=v
 simp only [V.At] at hat
 obtain⟨va,vc,rfl,-,-,-⟩:=hat
 have HB1:=Lib.hid (below_then HB0.out hb1 HB0.out.size)
 have HR1:=Lib.hid (HR0.out.keep hb1)
 have HB2:=Lib.hid (HB1.out.alloc HB1.out.size (.cells #[.int .i64 vk,.int .i64 vn,.string vt,.slice va vl.length vc] 70))
 have HR2:=Lib.hid (HR1.out.alloc (.cells #[.int .i64 vk,.int .i64 vn,.string vt,.slice va vl.length vc] 70))
 have q0:=HR2.out.cell (j:=0) rfl
 have f0:=HR2.out.free 0
 have q1:=HR2.out.cell (j:=1) rfl
 have f1:=HR2.out.free 1
 have q2:=HR2.out.cell (j:=2) rfl
 have f2:=HR2.out.free 2
 have q3:=HR2.out.cell (j:=3) rfl
 have f3:=HR2.out.free 3
 have q4:=HR2.out.cell (j:=4) rfl
 have f4:=HR2.out.free 4
 have q5:=HR2.out.cell (j:=5) rfl
 have f5:=HR2.out.free 5
 have q6:=HR2.out.cell (j:=6) rfl
 have f6:=HR2.out.free 6
 have q7:=HR2.out.cell (j:=7) rfl
 have f7:=HR2.out.free 7
 have q8:=HR2.out.cell (j:=8) rfl
 have f8:=HR2.out.free 8
 have q9:=HR2.out.cell (j:=9) rfl
 have f9:=HR2.out.free 9
 have q10:=HR2.out.cell (j:=10) rfl
 have f10:=HR2.out.free 10
 clear HG HB0 HR0 HR1 hb1
 go_wp2_with fail
 (try simp only [Exit.inBlock,Exit.then])
 have hz9:=blk_eleven HR2.out (.int .i64 0) (.int .i64 0) (.int .i64 0) (.int .i64 0) (.bool false) (.int .i64 0) (.int .i64 0) (.slice none 0 0) (.int .i64 0) (.string ⟨#[]⟩) (.slice none 0 0)
 have hg9:=grown_eleven (w1.alloc (.cells #[.int .i64 vk,.int .i64 vn,.string vt,.slice va vl.length vc] 70)) w.heap.size (.int .i64 0) (.int .i64 0) (.int .i64 0) (.int .i64 0) (.bool false) (.int .i64 0) (.int .i64 0) (.slice none 0 0) (.int .i64 0) (.string ⟨#[]⟩) (.slice none 0 0)
 have HB9:=Lib.hid (HB2.out.grown hg9 HB2.out.size (fun q e=>by have:=Option.some.inj e; omega))
 refine bodyPost_ret (v:=.tuple #[.agg #[.int .i64 0,.int .i64 0,.int .i64 0,.int .i64 0,.bool false,.int .i64 0,.int .i64 0,.slice none 0 0,.int .i64 0,.string ⟨#[]⟩,.slice none 0 0],.int .i64 b]) ?_ rfl ?_
 ·exact results_row_tmp (p:=2) (u:=3) rfl _ _ w.heap.size 25 _ (0,0) _ rfl hz9 Tryz.underlying25 rfl (by kernel_rfl)
 ·rw [HBE.out]; exact retM_zero _ HB9.out
set_option maxRecDepth 100000 in
set_option maxHeartbeats 4000000 in
theorem nget_head (s:ByteArray) (w:World) (hm:s.size≤9223372036854775807) (hbad:(getL s).bad=0) (v:V) (hv:(getL s).v=v) (hh:¬ headV v):Calls Tryz.prog 14 #[.string s] w (RetM w (Ms.zero,1)):=by
 have HG:=Lib.hid (get_any s (w.alloc (.cells #[.int .i64 0,.int .i64 0,.int .i64 0,.int .i64 0,.bool false,.int .i64 0,.int .i64 0,.slice none 0 0,.int .i64 0,.string ⟨#[]⟩,.slice none 0 0] 25)) hm)
 have HB0:=Lib.hid ((Below.refl w.heap.size w).alloc (Nat.le_refl _) (.cells #[.int .i64 0,.int .i64 0,.int .i64 0,.int .i64 0,.bool false,.int .i64 0,.int .i64 0,.slice none 0 0,.int .i64 0,.string ⟨#[]⟩,.slice none 0 0] 25))
 have HR0:Hid (Blk (w.alloc (.cells #[.int .i64 0,.int .i64 0,.int .i64 0,.int .i64 0,.bool false,.int .i64 0,.int .i64 0,.slice none 0 0,.int .i64 0,.string ⟨#[]⟩,.slice none 0 0] 25)) w.heap.size 25 [.int .i64 0,.int .i64 0,.int .i64 0,.int .i64 0,.bool false,.int .i64 0,.int .i64 0,.slice none 0 0,.int .i64 0,.string ⟨#[]⟩,.slice none 0 0]):=Lib.hid (heap_alloc_new w _)
 obtain⟨at_,hat_⟩:∃ b,b=(getL s).at_:=⟨_,rfl⟩
 have HA_:=Lib.hid hat_
 have HBA:=Lib.hid hbad
 have HHV:=Lib.hid hv
 have HH:=Lib.hid hh
 clear hbad hv hat_ hh
 go_enter Tryz.func14,Tryz.ntmps14
 go_wp2_with fail
 refine HG.out.mono ?_
 rintro e w1 ⟨cs,rfl,hat,hb1⟩
 dsimp only
 rw [HBA.out,← HA_.out]
 rw [HHV.out] at hat
 obtain⟨vk,vn,vt,vl⟩:=v
 simp only [V.At] at hat
 obtain⟨va,vc,rfl,-,-,hall⟩:=hat
 have HB1:=Lib.hid (below_then HB0.out hb1 HB0.out.size)
 have HR1:=Lib.hid (HR0.out.keep hb1)
 have HB2:=Lib.hid (HB1.out.alloc HB1.out.size (.cells #[.int .i64 vk,.int .i64 vn,.string vt,.slice va vl.length vc] 70))
 have HR2:=Lib.hid (HR1.out.alloc (.cells #[.int .i64 vk,.int .i64 vn,.string vt,.slice va vl.length vc] 70))
 have HV2:=Lib.hid (Four.new w1 70 (.int .i64 vk) (.int .i64 vn) (.string vt) (.slice va vl.length vc))
 have v0:=HV2.out.c0
 have v3:=HV2.out.c3
 have HALL:=Lib.hid hall
 have q0:=HR2.out.cell (j:=0) rfl
 have f0:=HR2.out.free 0
 have q1:=HR2.out.cell (j:=1) rfl
 have f1:=HR2.out.free 1
 have q2:=HR2.out.cell (j:=2) rfl
 have f2:=HR2.out.free 2
 have q3:=HR2.out.cell (j:=3) rfl
 have f3:=HR2.out.free 3
 have q4:=HR2.out.cell (j:=4) rfl
 have f4:=HR2.out.free 4
 have q5:=HR2.out.cell (j:=5) rfl
 have f5:=HR2.out.free 5
 have q6:=HR2.out.cell (j:=6) rfl
 have f6:=HR2.out.free 6
 have q7:=HR2.out.cell (j:=7) rfl
 have f7:=HR2.out.free 7
 have q8:=HR2.out.cell (j:=8) rfl
 have f8:=HR2.out.free 8
 have q9:=HR2.out.cell (j:=9) rfl
 have f9:=HR2.out.free 9
 have q10:=HR2.out.cell (j:=10) rfl
 have f10:=HR2.out.free 10
 clear HG HB0 HR0 HR1 hb1 hall
 obtain⟨N,hN⟩:∃ N,N=vl.length:=⟨_,rfl⟩
 have HN:=Lib.hid hN
 rw [← hN] at HB2 HR2 HV2 v0 v3 q0 q1 q2 q3 q4 q5 q6 q7 q8 q9 q10 f0 f1 f2 f3 f4 f5 f6 f7 f8 f9 f10 ⊢
 clear hN
 by_cases hl:N=11
 ·subst hl
  obtain⟨b,o,rfl,-,hel⟩:=elemsV HALL.out (by rw [← HN.out]; decide)
  obtain⟨a8,c8,-,m8,-,-,-⟩:=hel 8 (by rw [← HN.out]; decide)
  obtain⟨a9,c9,-,m9,-,-,-⟩:=hel 9 (by rw [← HN.out]; decide)
  obtain⟨a10,c10,-,m10,-,-,-⟩:=hel 10 (by rw [← HN.out]; decide)
  have HK:=Lib.hid (show ¬ (vk=3∧(vl.getD 8 zeroV).k=2∧(vl.getD 9 zeroV).k=3∧(vl.getD 10 zeroV).k=3) from fun h=>HH.out ⟨h.1,HN.out.symm,h.2.1,h.2.2.1,h.2.2.2⟩)
  have n8:=cell_keep ((Below.refl w1.heap.size w1).alloc (Nat.le_refl _) (.cells #[.int .i64 vk,.int .i64 vn,.string vt,.slice (some ⟨b,o,none⟩) 11 vc] 70)) m8
  have n9:=cell_keep ((Below.refl w1.heap.size w1).alloc (Nat.le_refl _) (.cells #[.int .i64 vk,.int .i64 vn,.string vt,.slice (some ⟨b,o,none⟩) 11 vc] 70)) m9
  have n10:=cell_keep ((Below.refl w1.heap.size w1).alloc (Nat.le_refl _) (.cells #[.int .i64 vk,.int .i64 vn,.string vt,.slice (some ⟨b,o,none⟩) 11 vc] 70)) m10
  clear hel m8 m9 m10
  generalize (vl.getD 8 zeroV).k=k8 at *
  generalize (vl.getD 9 zeroV).k=k9 at *
  generalize (vl.getD 10 zeroV).k=k10 at *
  simp only [Nat.reduceMul] at n8 n9 n10
  go_upto_region 4 with fail
  generalize (w1.alloc (.cells #[.int .i64 vk,.int .i64 vn,.string vt,.slice (some ⟨b,o,none⟩) 11 vc] 70))=w2 at *
  go_wp2_with fail
  all_goals first
   | (exfalso; have hk:=HK.out; (try simp only [bne_eq_false_iff_eq] at *); omega)
   | (
     (try simp only [Exit.inBlock,Exit.then])
     have hz9:=blk_eleven HR2.out (.int .i64 0) (.int .i64 0) (.int .i64 0) (.int .i64 0) (.bool false) (.int .i64 0) (.int .i64 0) (.slice none 0 0) (.int .i64 0) (.string ⟨#[]⟩) (.slice none 0 0)
     have hg9:=grown_eleven (w2) w.heap.size (.int .i64 0) (.int .i64 0) (.int .i64 0) (.int .i64 0) (.bool false) (.int .i64 0) (.int .i64 0) (.slice none 0 0) (.int .i64 0) (.string ⟨#[]⟩) (.slice none 0 0)
     have HB9:=Lib.hid (HB2.out.grown hg9 HB2.out.size (fun q e=>by have:=Option.some.inj e; omega))
     refine bodyPost_ret (v:=.tuple #[.agg #[.int .i64 0,.int .i64 0,.int .i64 0,.int .i64 0,.bool false,.int .i64 0,.int .i64 0,.slice none 0 0,.int .i64 0,.string ⟨#[]⟩,.slice none 0 0],.int .i64 1]) ?_ rfl ?_
     ·exact results_row_tmp (p:=2) (u:=3) rfl _ _ w.heap.size 25 _ (0,0) _ rfl hz9 Tryz.underlying25 rfl (by kernel_rfl)
     ·exact retM_zero _ HB9.out
     )
 ·have hl2:((N:Int) != 11)=true:=by simp; omega
  go_upto_region 4 with fail
  generalize (w1.alloc (.cells #[.int .i64 vk,.int .i64 vn,.string vt,.slice va N vc] 70))=w2 at *
  go_wp2_with fail
  all_goals (
   (try simp only [Exit.inBlock,Exit.then])
   have hz9:=blk_eleven HR2.out (.int .i64 0) (.int .i64 0) (.int .i64 0) (.int .i64 0) (.bool false) (.int .i64 0) (.int .i64 0) (.slice none 0 0) (.int .i64 0) (.string ⟨#[]⟩) (.slice none 0 0)
   have hg9:=grown_eleven (w2) w.heap.size (.int .i64 0) (.int .i64 0) (.int .i64 0) (.int .i64 0) (.bool false) (.int .i64 0) (.int .i64 0) (.slice none 0 0) (.int .i64 0) (.string ⟨#[]⟩) (.slice none 0 0)
   have HB9:=Lib.hid (HB2.out.grown hg9 HB2.out.size (fun q e=>by have:=Option.some.inj e; omega))
   refine bodyPost_ret (v:=.tuple #[.agg #[.int .i64 0,.int .i64 0,.int .i64 0,.int .i64 0,.bool false,.int .i64 0,.int .i64 0,.slice none 0 0,.int .i64 0,.string ⟨#[]⟩,.slice none 0 0],.int .i64 1]) ?_ rfl ?_
   ·exact results_row_tmp (p:=2) (u:=3) rfl _ _ w.heap.size 25 _ (0,0) _ rfl hz9 Tryz.underlying25 rfl (by kernel_rfl)
   ·exact retM_zero _ HB9.out
   )
end Go.Proofs.YtlpgbmaoenncjaaGreatDoor

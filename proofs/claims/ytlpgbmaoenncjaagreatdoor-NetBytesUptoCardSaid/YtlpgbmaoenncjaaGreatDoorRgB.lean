/-
  The walk of the reference's Get of messages: any text is read as just that message, or refused. (Written by wip/mkrg2.py.)
-/
import Derived.Test.YtlpgbmaoenncjaaGreatDoorRgA
import Derived.Test.YtlpgbmaoenncjaaGreatDoorNgD
import Derived.Test.YtlpgbmaoenncjaaGreatDoorRfAll
namespace Go.Proofs.YtlpgbmaoenncjaaGreatDoor
open Go.RowKit
set_option linter.unusedVariables false
theorem zA {p:Prop} (h:p):Hid p:=Lib.hid h
set_option maxRecDepth 100000 in
set_option maxHeartbeats 2000000 in
theorem rg_bad (s:ByteArray) (w:World) (hm:s.size≤9223372036854775807) (hbad:(getL s).bad≠0):Calls Tryz.prog 15 #[.string s] w (RetM w (Ms.zero,(getL s).bad)):=by
 have HG:=zA (rget_any s ((w.alloc (.cells #[.int .i64 0,.int .i64 0,.int .i64 0,.int .i64 0,.bool false,.int .i64 0,.int .i64 0,.slice none 0 0,.int .i64 0,.string ⟨#[]⟩,.slice none 0 0] 25)).alloc (.cells #[.int .i64 0,.int .i64 0,.int .i64 0,.int .i64 0,.bool false,.int .i64 0,.int .i64 0,.slice none 0 0,.int .i64 0,.string ⟨#[]⟩,.slice none 0 0] 25)) hm)
 have HB0:=zA (((Below.refl w.heap.size w).alloc (Nat.le_refl _) (.cells #[.int .i64 0,.int .i64 0,.int .i64 0,.int .i64 0,.bool false,.int .i64 0,.int .i64 0,.slice none 0 0,.int .i64 0,.string ⟨#[]⟩,.slice none 0 0] 25)).alloc (by simp) (.cells #[.int .i64 0,.int .i64 0,.int .i64 0,.int .i64 0,.bool false,.int .i64 0,.int .i64 0,.slice none 0 0,.int .i64 0,.string ⟨#[]⟩,.slice none 0 0] 25))
 have HR0:Hid (Blk ((w.alloc (.cells #[.int .i64 0,.int .i64 0,.int .i64 0,.int .i64 0,.bool false,.int .i64 0,.int .i64 0,.slice none 0 0,.int .i64 0,.string ⟨#[]⟩,.slice none 0 0] 25)).alloc (.cells #[.int .i64 0,.int .i64 0,.int .i64 0,.int .i64 0,.bool false,.int .i64 0,.int .i64 0,.slice none 0 0,.int .i64 0,.string ⟨#[]⟩,.slice none 0 0] 25)) w.heap.size 25 [.int .i64 0,.int .i64 0,.int .i64 0,.int .i64 0,.bool false,.int .i64 0,.int .i64 0,.slice none 0 0,.int .i64 0,.string ⟨#[]⟩,.slice none 0 0]):=zA (Blk.alloc (heap_alloc_new w _) _)
 have HN0:Hid (Blk ((w.alloc (.cells #[.int .i64 0,.int .i64 0,.int .i64 0,.int .i64 0,.bool false,.int .i64 0,.int .i64 0,.slice none 0 0,.int .i64 0,.string ⟨#[]⟩,.slice none 0 0] 25)).alloc (.cells #[.int .i64 0,.int .i64 0,.int .i64 0,.int .i64 0,.bool false,.int .i64 0,.int .i64 0,.slice none 0 0,.int .i64 0,.string ⟨#[]⟩,.slice none 0 0] 25)) (w.heap.size+1) 25 [.int .i64 0,.int .i64 0,.int .i64 0,.int .i64 0,.bool false,.int .i64 0,.int .i64 0,.slice none 0 0,.int .i64 0,.string ⟨#[]⟩,.slice none 0 0]):=zA (by have hz:=heap_alloc_new (w.alloc (.cells #[.int .i64 0,.int .i64 0,.int .i64 0,.int .i64 0,.bool false,.int .i64 0,.int .i64 0,.slice none 0 0,.int .i64 0,.string ⟨#[]⟩,.slice none 0 0] 25)) (.cells #[.int .i64 0,.int .i64 0,.int .i64 0,.int .i64 0,.bool false,.int .i64 0,.int .i64 0,.slice none 0 0,.int .i64 0,.string ⟨#[]⟩,.slice none 0 0] 25); rw [World.size_alloc] at hz; exact hz)
 obtain⟨b,hb⟩:∃ b,b=(getL s).bad:=⟨_,rfl⟩
 have p1:(b != 0)=true:=by rw [hb]; simpa using hbad
 have HBE:=zA hb
 clear hbad
 go_enter Tryz.func15,Tryz.ntmps15
 go_wp2_with fail
 refine HG.out.mono ?_
 rintro e w1 ⟨cs,rfl,hat,hb1⟩
 dsimp only
 rw [← hb]
 clear hb
 obtain⟨v,hv⟩:∃ v,v=(getL s).v:=⟨_,rfl⟩
 rw [← hv] at hat
 clear hv
 obtain⟨vk,vn,vt,vl⟩:=v
 simp only [V.At] at hat
 obtain⟨va,vc,rfl,-,-,-⟩:=hat
 have HB1:=zA (below_then HB0.out hb1 HB0.out.size)
 have HR1:=zA (HR0.out.keep hb1)
 have HN1:=zA (HN0.out.keep hb1)
 have HB2:=zA (HB1.out.alloc HB1.out.size (.cells #[.int .i64 vk,.int .i64 vn,.string vt,.slice va vl.length vc] 70))
 have HR2:=zA (HR1.out.alloc (.cells #[.int .i64 vk,.int .i64 vn,.string vt,.slice va vl.length vc] 70))
 have HN2:=zA (HN1.out.alloc (.cells #[.int .i64 vk,.int .i64 vn,.string vt,.slice va vl.length vc] 70))
 have q0:=HR2.out.cell (j:=0) rfl
 have f0:=HR2.out.free 0
 have q1:=HR2.out.cell (j:=1) rfl
 have f1:=HR2.out.free 1
 have q2:=HR2.out.cell (j:=2) rfl
 have f2:=HR2.out.free 2
 have q3:=HR2.out.cell (j:=3) rfl
 have f3:=HR2.out.free 3
 have q4:=HR2.out.cell (j:=4) rfl
 have f4:=HR2.out.free 4
 have q5:=HR2.out.cell (j:=5) rfl
 have f5:=HR2.out.free 5
 have q6:=HR2.out.cell (j:=6) rfl
 have f6:=HR2.out.free 6
 have q7:=HR2.out.cell (j:=7) rfl
 have f7:=HR2.out.free 7
 have q8:=HR2.out.cell (j:=8) rfl
 have f8:=HR2.out.free 8
 have q9:=HR2.out.cell (j:=9) rfl
 have f9:=HR2.out.free 9
 have q10:=HR2.out.cell (j:=10) rfl
 have f10:=HR2.out.free 10
 have z0:=HN2.out.cell (j:=0) rfl
 have z1:=HN2.out.cell (j:=1) rfl
 have z2:=HN2.out.cell (j:=2) rfl
 have z3:=HN2.out.cell (j:=3) rfl
 have z4:=HN2.out.cell (j:=4) rfl
 have z5:=HN2.out.cell (j:=5) rfl
 have z6:=HN2.out.cell (j:=6) rfl
 have z7:=HN2.out.cell (j:=7) rfl
 have z8:=HN2.out.cell (j:=8) rfl
 have z9:=HN2.out.cell (j:=9) rfl
 have z10:=HN2.out.cell (j:=10) rfl
 clear HG HB0 HR0 HN0 HR1 HN1 hb1
 go_wp2_with fail
 (try simp only [Exit.inBlock,Exit.then])
 have hz9:=blk_eleven HR2.out (.int .i64 0) (.int .i64 0) (.int .i64 0) (.int .i64 0) (.bool false) (.int .i64 0) (.int .i64 0) (.slice none 0 0) (.int .i64 0) (.string ⟨#[]⟩) (.slice none 0 0)
 have hg9:=grown_eleven (w1.alloc (.cells #[.int .i64 vk,.int .i64 vn,.string vt,.slice va vl.length vc] 70)) w.heap.size (.int .i64 0) (.int .i64 0) (.int .i64 0) (.int .i64 0) (.bool false) (.int .i64 0) (.int .i64 0) (.slice none 0 0) (.int .i64 0) (.string ⟨#[]⟩) (.slice none 0 0)
 have HB9:=zA (HB2.out.grown hg9 HB2.out.size (fun q e=>by have:=Option.some.inj e; omega))
 refine bodyPost_ret (v:=.tuple #[.agg #[.int .i64 0,.int .i64 0,.int .i64 0,.int .i64 0,.bool false,.int .i64 0,.int .i64 0,.slice none 0 0,.int .i64 0,.string ⟨#[]⟩,.slice none 0 0],.int .i64 b]) ?_ rfl ?_
 ·exact results_row_tmp (p:=2) (u:=3) rfl _ _ w.heap.size 25 _ (0,0) _ rfl hz9 Tryz.underlying25 rfl (by kernel_rfl)
 ·rw [HBE.out]; exact retM_zero _ HB9.out
set_option maxRecDepth 100000 in
set_option maxHeartbeats 4000000 in
theorem rg_head (s:ByteArray) (w:World) (hm:s.size≤9223372036854775807) (hbad:(getL s).bad=0) (v:V) (hv:(getL s).v=v) (hh:¬ headV v):Calls Tryz.prog 15 #[.string s] w (RetM w (Ms.zero,1)):=by
 have HG:=zA (rget_any s ((w.alloc (.cells #[.int .i64 0,.int .i64 0,.int .i64 0,.int .i64 0,.bool false,.int .i64 0,.int .i64 0,.slice none 0 0,.int .i64 0,.string ⟨#[]⟩,.slice none 0 0] 25)).alloc (.cells #[.int .i64 0,.int .i64 0,.int .i64 0,.int .i64 0,.bool false,.int .i64 0,.int .i64 0,.slice none 0 0,.int .i64 0,.string ⟨#[]⟩,.slice none 0 0] 25)) hm)
 have HB0:=zA (((Below.refl w.heap.size w).alloc (Nat.le_refl _) (.cells #[.int .i64 0,.int .i64 0,.int .i64 0,.int .i64 0,.bool false,.int .i64 0,.int .i64 0,.slice none 0 0,.int .i64 0,.string ⟨#[]⟩,.slice none 0 0] 25)).alloc (by simp) (.cells #[.int .i64 0,.int .i64 0,.int .i64 0,.int .i64 0,.bool false,.int .i64 0,.int .i64 0,.slice none 0 0,.int .i64 0,.string ⟨#[]⟩,.slice none 0 0] 25))
 have HR0:Hid (Blk ((w.alloc (.cells #[.int .i64 0,.int .i64 0,.int .i64 0,.int .i64 0,.bool false,.int .i64 0,.int .i64 0,.slice none 0 0,.int .i64 0,.string ⟨#[]⟩,.slice none 0 0] 25)).alloc (.cells #[.int .i64 0,.int .i64 0,.int .i64 0,.int .i64 0,.bool false,.int .i64 0,.int .i64 0,.slice none 0 0,.int .i64 0,.string ⟨#[]⟩,.slice none 0 0] 25)) w.heap.size 25 [.int .i64 0,.int .i64 0,.int .i64 0,.int .i64 0,.bool false,.int .i64 0,.int .i64 0,.slice none 0 0,.int .i64 0,.string ⟨#[]⟩,.slice none 0 0]):=zA (Blk.alloc (heap_alloc_new w _) _)
 have HN0:Hid (Blk ((w.alloc (.cells #[.int .i64 0,.int .i64 0,.int .i64 0,.int .i64 0,.bool false,.int .i64 0,.int .i64 0,.slice none 0 0,.int .i64 0,.string ⟨#[]⟩,.slice none 0 0] 25)).alloc (.cells #[.int .i64 0,.int .i64 0,.int .i64 0,.int .i64 0,.bool false,.int .i64 0,.int .i64 0,.slice none 0 0,.int .i64 0,.string ⟨#[]⟩,.slice none 0 0] 25)) (w.heap.size+1) 25 [.int .i64 0,.int .i64 0,.int .i64 0,.int .i64 0,.bool false,.int .i64 0,.int .i64 0,.slice none 0 0,.int .i64 0,.string ⟨#[]⟩,.slice none 0 0]):=zA (by have hz:=heap_alloc_new (w.alloc (.cells #[.int .i64 0,.int .i64 0,.int .i64 0,.int .i64 0,.bool false,.int .i64 0,.int .i64 0,.slice none 0 0,.int .i64 0,.string ⟨#[]⟩,.slice none 0 0] 25)) (.cells #[.int .i64 0,.int .i64 0,.int .i64 0,.int .i64 0,.bool false,.int .i64 0,.int .i64 0,.slice none 0 0,.int .i64 0,.string ⟨#[]⟩,.slice none 0 0] 25); rw [World.size_alloc] at hz; exact hz)
 obtain⟨at_,hat_⟩:∃ b,b=(getL s).at_:=⟨_,rfl⟩
 have HA_:=zA hat_
 have HBA:=zA hbad
 have HHV:=zA hv
 have HH:=zA hh
 clear hbad hv hat_ hh
 go_enter Tryz.func15,Tryz.ntmps15
 go_wp2_with fail
 refine HG.out.mono ?_
 rintro e w1 ⟨cs,rfl,hat,hb1⟩
 dsimp only
 rw [HBA.out,← HA_.out]
 rw [HHV.out] at hat
 obtain⟨vk,vn,vt,vl⟩:=v
 simp only [V.At] at hat
 obtain⟨va,vc,rfl,-,-,hall⟩:=hat
 have HB1:=zA (below_then HB0.out hb1 HB0.out.size)
 have HR1:=zA (HR0.out.keep hb1)
 have HN1:=zA (HN0.out.keep hb1)
 have HB2:=zA (HB1.out.alloc HB1.out.size (.cells #[.int .i64 vk,.int .i64 vn,.string vt,.slice va vl.length vc] 70))
 have HR2:=zA (HR1.out.alloc (.cells #[.int .i64 vk,.int .i64 vn,.string vt,.slice va vl.length vc] 70))
 have HN2:=zA (HN1.out.alloc (.cells #[.int .i64 vk,.int .i64 vn,.string vt,.slice va vl.length vc] 70))
 have HV2:=zA (Four.new w1 70 (.int .i64 vk) (.int .i64 vn) (.string vt) (.slice va vl.length vc))
 have v0:=HV2.out.c0
 have v3:=HV2.out.c3
 have HALL:=zA hall
 have q0:=HR2.out.cell (j:=0) rfl
 have f0:=HR2.out.free 0
 have q1:=HR2.out.cell (j:=1) rfl
 have f1:=HR2.out.free 1
 have q2:=HR2.out.cell (j:=2) rfl
 have f2:=HR2.out.free 2
 have q3:=HR2.out.cell (j:=3) rfl
 have f3:=HR2.out.free 3
 have q4:=HR2.out.cell (j:=4) rfl
 have f4:=HR2.out.free 4
 have q5:=HR2.out.cell (j:=5) rfl
 have f5:=HR2.out.free 5
 have q6:=HR2.out.cell (j:=6) rfl
 have f6:=HR2.out.free 6
 have q7:=HR2.out.cell (j:=7) rfl
 have f7:=HR2.out.free 7
 have q8:=HR2.out.cell (j:=8) rfl
 have f8:=HR2.out.free 8
 have q9:=HR2.out.cell (j:=9) rfl
 have f9:=HR2.out.free 9
 have q10:=HR2.out.cell (j:=10) rfl
 have f10:=HR2.out.free 10
 have z0:=HN2.out.cell (j:=0) rfl
 have z1:=HN2.out.cell (j:=1) rfl
 have z2:=HN2.out.cell (j:=2) rfl
 have z3:=HN2.out.cell (j:=3) rfl
 have z4:=HN2.out.cell (j:=4) rfl
 have z5:=HN2.out.cell (j:=5) rfl
 have z6:=HN2.out.cell (j:=6) rfl
 have z7:=HN2.out.cell (j:=7) rfl
 have z8:=HN2.out.cell (j:=8) rfl
 have z9:=HN2.out.cell (j:=9) rfl
 have z10:=HN2.out.cell (j:=10) rfl
 clear HG HB0 HR0 HN0 HR1 HN1 hb1 hall
 obtain⟨N,hN⟩:∃ N,N=vl.length:=⟨_,rfl⟩
 have HN:=zA hN
 rw [← hN] at HB2 HR2 HN2 HV2 v0 v3 q0 q1 q2 q3 q4 q5 q6 q7 q8 q9 q10 f0 f1 f2 f3 f4 f5 f6 f7 f8 f9 f10 z0 z1 z2 z3 z4 z5 z6 z7 z8 z9 z10 ⊢
 clear hN
 by_cases hl:N=11
 ·subst hl
  obtain⟨b,o,rfl,-,hel⟩:=elemsV HALL.out (by rw [← HN.out]; decide)
  obtain⟨a8,c8,-,m8,-,-,-⟩:=hel 8 (by rw [← HN.out]; decide)
  obtain⟨a9,c9,-,m9,-,-,-⟩:=hel 9 (by rw [← HN.out]; decide)
  obtain⟨a10,c10,-,m10,-,-,-⟩:=hel 10 (by rw [← HN.out]; decide)
  have HK:=zA (show ¬ (vk=3∧(vl.getD 8 zeroV).k=2∧(vl.getD 9 zeroV).k=3∧(vl.getD 10 zeroV).k=3) from fun h=>HH.out ⟨h.1,HN.out.symm,h.2.1,h.2.2.1,h.2.2.2⟩)
  have n8:=cell_keep ((Below.refl w1.heap.size w1).alloc (Nat.le_refl _) (.cells #[.int .i64 vk,.int .i64 vn,.string vt,.slice (some ⟨b,o,none⟩) 11 vc] 70)) m8
  have n9:=cell_keep ((Below.refl w1.heap.size w1).alloc (Nat.le_refl _) (.cells #[.int .i64 vk,.int .i64 vn,.string vt,.slice (some ⟨b,o,none⟩) 11 vc] 70)) m9
  have n10:=cell_keep ((Below.refl w1.heap.size w1).alloc (Nat.le_refl _) (.cells #[.int .i64 vk,.int .i64 vn,.string vt,.slice (some ⟨b,o,none⟩) 11 vc] 70)) m10
  clear hel m8 m9 m10
  generalize (vl.getD 8 zeroV).k=k8 at *
  generalize (vl.getD 9 zeroV).k=k9 at *
  generalize (vl.getD 10 zeroV).k=k10 at *
  simp only [Nat.reduceMul] at n8 n9 n10
  go_upto_region 5 with fail
  generalize (w1.alloc (.cells #[.int .i64 vk,.int .i64 vn,.string vt,.slice (some ⟨b,o,none⟩) 11 vc] 70))=w2 at *
  go_wp2_with fail
  all_goals first
   | (exfalso; have hk:=HK.out; (try simp only [bne_eq_false_iff_eq] at *); omega)
   | (
     (try simp only [Exit.inBlock,Exit.then])
     have hz9:=blk_eleven HR2.out (.int .i64 0) (.int .i64 0) (.int .i64 0) (.int .i64 0) (.bool false) (.int .i64 0) (.int .i64 0) (.slice none 0 0) (.int .i64 0) (.string ⟨#[]⟩) (.slice none 0 0)
     have hg9:=grown_eleven (w2) w.heap.size (.int .i64 0) (.int .i64 0) (.int .i64 0) (.int .i64 0) (.bool false) (.int .i64 0) (.int .i64 0) (.slice none 0 0) (.int .i64 0) (.string ⟨#[]⟩) (.slice none 0 0)
     have HB9:=zA (HB2.out.grown hg9 HB2.out.size (fun q e=>by have:=Option.some.inj e; omega))
     refine bodyPost_ret (v:=.tuple #[.agg #[.int .i64 0,.int .i64 0,.int .i64 0,.int .i64 0,.bool false,.int .i64 0,.int .i64 0,.slice none 0 0,.int .i64 0,.string ⟨#[]⟩,.slice none 0 0],.int .i64 1]) ?_ rfl ?_
     ·exact results_row_tmp (p:=2) (u:=3) rfl _ _ w.heap.size 25 _ (0,0) _ rfl hz9 Tryz.underlying25 rfl (by kernel_rfl)
     ·exact retM_zero _ HB9.out
     )
 ·have hl2:((N:Int) != 11)=true:=by simp; omega
  go_upto_region 5 with fail
  generalize (w1.alloc (.cells #[.int .i64 vk,.int .i64 vn,.string vt,.slice va N vc] 70))=w2 at *
  go_wp2_with fail
  all_goals (
   (try simp only [Exit.inBlock,Exit.then])
   have hz9:=blk_eleven HR2.out (.int .i64 0) (.int .i64 0) (.int .i64 0) (.int .i64 0) (.bool false) (.int .i64 0) (.int .i64 0) (.slice none 0 0) (.int .i64 0) (.string ⟨#[]⟩) (.slice none 0 0)
   have hg9:=grown_eleven (w2) w.heap.size (.int .i64 0) (.int .i64 0) (.int .i64 0) (.int .i64 0) (.bool false) (.int .i64 0) (.int .i64 0) (.slice none 0 0) (.int .i64 0) (.string ⟨#[]⟩) (.slice none 0 0)
   have HB9:=zA (HB2.out.grown hg9 HB2.out.size (fun q e=>by have:=Option.some.inj e; omega))
   refine bodyPost_ret (v:=.tuple #[.agg #[.int .i64 0,.int .i64 0,.int .i64 0,.int .i64 0,.bool false,.int .i64 0,.int .i64 0,.slice none 0 0,.int .i64 0,.string ⟨#[]⟩,.slice none 0 0],.int .i64 1]) ?_ rfl ?_
   ·exact results_row_tmp (p:=2) (u:=3) rfl _ _ w.heap.size 25 _ (0,0) _ rfl hz9 Tryz.underlying25 rfl (by kernel_rfl)
   ·exact retM_zero _ HB9.out
   )
theorem firstV_iff (v:V):firstV v↔∀ j,j<8→smallN (fld v j):=by
 unfold firstV
 constructor
 ·rintro⟨h0,h1,h2,h3,h4,h5,h6,h7⟩ j hj
  rcases (show j=0∨j=1∨j=2∨j=3∨j=4∨j=5∨j=6∨j=7 by omega) with rfl | rfl | rfl | rfl | rfl | rfl | rfl | rfl <;> assumption
 ·intro h
  exact⟨h 0 (by omega),h 1 (by omega),h 2 (by omega),h 3 (by omega),h 4 (by omega),h 5 (by omega),h 6 (by omega),h 7 (by omega)⟩
set_option maxRecDepth 100000 in
set_option maxHeartbeats 1600000 in
theorem rg_go (s:ByteArray) (w:World) (hm:s.size≤9223372036854775807) (hbad:(getL s).bad=0) (v:V) (hv:(getL s).v=v) (hh:headV v) (x:Ms × Int) (hx:Hid (x=readM v)):Calls Tryz.prog 15 #[.string s] w (RetM w x):=by
 have HG:=zA (rget_any s ((w.alloc (.cells #[.int .i64 0,.int .i64 0,.int .i64 0,.int .i64 0,.bool false,.int .i64 0,.int .i64 0,.slice none 0 0,.int .i64 0,.string ⟨#[]⟩,.slice none 0 0] 25)).alloc (.cells #[.int .i64 0,.int .i64 0,.int .i64 0,.int .i64 0,.bool false,.int .i64 0,.int .i64 0,.slice none 0 0,.int .i64 0,.string ⟨#[]⟩,.slice none 0 0] 25)) hm)
 have HB0:=zA (((Below.refl w.heap.size w).alloc (Nat.le_refl _) (.cells #[.int .i64 0,.int .i64 0,.int .i64 0,.int .i64 0,.bool false,.int .i64 0,.int .i64 0,.slice none 0 0,.int .i64 0,.string ⟨#[]⟩,.slice none 0 0] 25)).alloc (by simp) (.cells #[.int .i64 0,.int .i64 0,.int .i64 0,.int .i64 0,.bool false,.int .i64 0,.int .i64 0,.slice none 0 0,.int .i64 0,.string ⟨#[]⟩,.slice none 0 0] 25))
 have HR0:Hid (Blk ((w.alloc (.cells #[.int .i64 0,.int .i64 0,.int .i64 0,.int .i64 0,.bool false,.int .i64 0,.int .i64 0,.slice none 0 0,.int .i64 0,.string ⟨#[]⟩,.slice none 0 0] 25)).alloc (.cells #[.int .i64 0,.int .i64 0,.int .i64 0,.int .i64 0,.bool false,.int .i64 0,.int .i64 0,.slice none 0 0,.int .i64 0,.string ⟨#[]⟩,.slice none 0 0] 25)) w.heap.size 25 [.int .i64 0,.int .i64 0,.int .i64 0,.int .i64 0,.bool false,.int .i64 0,.int .i64 0,.slice none 0 0,.int .i64 0,.string ⟨#[]⟩,.slice none 0 0]):=zA (Blk.alloc (heap_alloc_new w _) _)
 have HN0:Hid (Blk ((w.alloc (.cells #[.int .i64 0,.int .i64 0,.int .i64 0,.int .i64 0,.bool false,.int .i64 0,.int .i64 0,.slice none 0 0,.int .i64 0,.string ⟨#[]⟩,.slice none 0 0] 25)).alloc (.cells #[.int .i64 0,.int .i64 0,.int .i64 0,.int .i64 0,.bool false,.int .i64 0,.int .i64 0,.slice none 0 0,.int .i64 0,.string ⟨#[]⟩,.slice none 0 0] 25)) (w.heap.size+1) 25 [.int .i64 0,.int .i64 0,.int .i64 0,.int .i64 0,.bool false,.int .i64 0,.int .i64 0,.slice none 0 0,.int .i64 0,.string ⟨#[]⟩,.slice none 0 0]):=zA (by have hz:=heap_alloc_new (w.alloc (.cells #[.int .i64 0,.int .i64 0,.int .i64 0,.int .i64 0,.bool false,.int .i64 0,.int .i64 0,.slice none 0 0,.int .i64 0,.string ⟨#[]⟩,.slice none 0 0] 25)) (.cells #[.int .i64 0,.int .i64 0,.int .i64 0,.int .i64 0,.bool false,.int .i64 0,.int .i64 0,.slice none 0 0,.int .i64 0,.string ⟨#[]⟩,.slice none 0 0] 25); rw [World.size_alloc] at hz; exact hz)
 obtain⟨at_,hat_⟩:∃ b,b=(getL s).at_:=⟨_,rfl⟩
 have HA_:=zA hat_
 have HBA:=zA hbad
 have HHV:=zA hv
 have HH:=zA hh
 clear hbad hv hat_ hh
 go_enter Tryz.func15,Tryz.ntmps15
 go_wp2_with fail
 refine HG.out.mono ?_
 rintro e w1 ⟨cs,rfl,hat,hb1⟩
 dsimp only
 rw [HBA.out,← HA_.out]
 rw [HHV.out] at hat
 obtain⟨vk,vn,vt,vl⟩:=v
 simp only [V.At] at hat
 obtain⟨va,vc,rfl,-,-,hall⟩:=hat
 have HB1:=zA (below_then HB0.out hb1 HB0.out.size)
 have HR1:=zA (HR0.out.keep hb1)
 have HN1:=zA (HN0.out.keep hb1)
 have HB2:=zA (HB1.out.alloc HB1.out.size (.cells #[.int .i64 vk,.int .i64 vn,.string vt,.slice va vl.length vc] 70))
 have HR2:=zA (HR1.out.alloc (.cells #[.int .i64 vk,.int .i64 vn,.string vt,.slice va vl.length vc] 70))
 have HN2:=zA (HN1.out.alloc (.cells #[.int .i64 vk,.int .i64 vn,.string vt,.slice va vl.length vc] 70))
 have HV2:=zA (Four.new w1 70 (.int .i64 vk) (.int .i64 vn) (.string vt) (.slice va vl.length vc))
 have HS2:Hid ((w1.alloc (.cells #[.int .i64 vk,.int .i64 vn,.string vt,.slice va vl.length vc] 70)).heap.size=w1.heap.size+1):=zA (by simp)
 obtain⟨h1,h2,h3,h4,h5⟩:=HH.out
 simp only [V.k,V.l] at h1 h2
 have HLEN:=zA h2
 obtain⟨b,o,rfl,hS,hel⟩:=elemsV hall (by rw [h2]; decide)
 have hb3:b<w1.heap.size:=hS.2
 have HEL:=zA hel
 obtain⟨a8,c8,r8,m8_0,m8_1,m8_2,m8_3⟩:=hel 8 (by rw [h2]; decide)
 obtain⟨a9,c9,r9,m9_0,m9_1,m9_2,m9_3⟩:=hel 9 (by rw [h2]; decide)
 obtain⟨a10,c10,r10,m10_0,m10_1,m10_2,m10_3⟩:=hel 10 (by rw [h2]; decide)
 clear hel hS HG HB0 HR0 HN0 HR1 HN1 hb1 HH
 have HX:Hid (x=readM (.mk vk vn vt vl)):=hx
 rw [h2] at HB2 HR2 HN2 HV2 HS2
 change (vl.getD 8 zeroV).k=2 at h3
 change (vl.getD 9 zeroV).k=3 at h4
 change (vl.getD 10 zeroV).k=3 at h5
 have hb2:Below w1.heap.size w1 (w1.alloc (.cells #[.int .i64 vk,.int .i64 vn,.string vt,.slice (some ⟨b,o,none⟩) 11 vc] 70)):=(Below.refl w1.heap.size w1).alloc (Nat.le_refl _) _
 have HK2:=zA hb2
 replace m8_0:=zA (cell_keep hb2 m8_0)
 replace m8_1:=zA (cell_keep hb2 m8_1)
 replace m8_2:=zA (cell_keep hb2 m8_2)
 replace m8_3:=zA (cell_keep hb2 m8_3)
 replace m9_0:=zA (cell_keep hb2 m9_0)
 replace m9_1:=zA (cell_keep hb2 m9_1)
 replace m9_2:=zA (cell_keep hb2 m9_2)
 replace m9_3:=zA (cell_keep hb2 m9_3)
 replace m10_0:=zA (cell_keep hb2 m10_0)
 replace m10_1:=zA (cell_keep hb2 m10_1)
 replace m10_2:=zA (cell_keep hb2 m10_2)
 replace m10_3:=zA (cell_keep hb2 m10_3)
 have HALL9:=zA (VAll.move (T:=fun b=>b<w1.heap.size) (fun _ h=>h.2) (fun q h=>hb2.block q h.2) _ _ _ r9)
 have HALL10:=zA (VAll.move (T:=fun b=>b<w1.heap.size) (fun _ h=>h.2) (fun q h=>hb2.block q h.2) _ _ _ r10)
 clear r8 r9 r10 hb2 hall
 have HH1:=zA h1
 subst h1
 rw [h2]
 obtain⟨E8,hE8⟩:∃ y,y=vl.getD 8 zeroV:=⟨_,rfl⟩
 rw [← hE8] at m8_0 m8_1 m8_2 m8_3 h3
 replace hE8:=zA hE8
 obtain⟨E9,hE9⟩:∃ y,y=vl.getD 9 zeroV:=⟨_,rfl⟩
 rw [← hE9] at m9_0 m9_1 m9_2 m9_3 h4 HALL9
 replace hE9:=zA hE9
 obtain⟨E10,hE10⟩:∃ y,y=vl.getD 10 zeroV:=⟨_,rfl⟩
 rw [← hE10] at m10_0 m10_1 m10_2 m10_3 h5 HALL10
 replace hE10:=zA hE10
 go_upto_region 5 with fail
 generalize (w1.alloc (.cells #[.int .i64 3,.int .i64 vn,.string vt,.slice (some ⟨b,o,none⟩) 11 vc] 70))=w2 at *
 have hs2:=HS2.out
 have v0:=HV2.out.c0
 have v3:=HV2.out.c3
 have y8:=show w2.cell? ⟨b,o+32,none⟩=some (.int .i64 2) from by have:=m8_0.out; rw [h3] at this; exact this
 have y9:=show w2.cell? ⟨b,o+36,none⟩=some (.int .i64 3) from by have:=m9_0.out; rw [h4] at this; exact this
 have y10:=show w2.cell? ⟨b,o+40,none⟩=some (.int .i64 3) from by have:=m10_0.out; rw [h5] at this; exact this
 have HK3:=zA (And.intro h3 (And.intro h4 h5))
 replace HS2:=zA hs2
 clear h2 h3 h4 h5 hs2
 go_wp2_with fail
 clear v0 v3 y8 y9 y10
 go_loopg [8] 8 (fun gk v wr=>∃ (k:Nat),k≤8∧gk=8 - k∧v = .int .i64 (k:Int)∧Hid (∀ j,j<k→smallN (vl.getD j zeroV))∧Hid (Below w2.heap.size w2 wr))
 case atStart=>exact⟨0,Nat.zero_le _,rfl,rfl,zA (fun j hj=>absurd hj (Nat.not_lt_zero _)),zA (Below.refl _ _)⟩
 case round =>
  obtain⟨k,hk,rfl,rfl,HSM,hB⟩:=hrel
  have HVr:=zA (show Four wr w1.heap.size _ _ _ _ _ from (hB.out.block _ (by have:=HS2.out; omega)).trans HV2.out)
  have v3:=HVr.out.c3
  by_cases hk8:k<8
  ·have hki:(k:Int)<8:=by omega
   obtain⟨xa,xc,-,g0,g1,g2,g3⟩:=HEL.out k (by rw [HLEN.out]; omega)
   have y0:=cell_keep hB.out (cell_keep HK2.out g0)
   have y1:=cell_keep hB.out (cell_keep HK2.out g1)
   have y2:=cell_keep hB.out (cell_keep HK2.out g2)
   have y3:=cell_keep hB.out (cell_keep HK2.out g3)
   have HFS:Hid (¬ smallN (vl.getD k zeroV)→x=(Ms.zero,1)):=zA (fun h=>by rw [HX.out]; unfold readM; rw [if_neg]; exact fun h2=>h (((firstV_iff _).1 h2.2.1) k hk8))
   have HSM2:Hid (smallN (vl.getD k zeroV)→∀ j,j<k+1→smallN (vl.getD j zeroV)):=zA (fun h j hj=>by
    by_cases e:j=k
    ·rw [e]; exact h
    ·exact HSM.out j (by omega))
   clear g0 g1 g2 g3
   generalize vl.getD k zeroV=X at *
   obtain⟨xk,xn,xs,xl⟩:=X
   simp only [V.k,V.n,V.s,V.l] at y0 y1 y2 y3
   go_wp2_with fail
   refine (rsmall_any xk xn xs xa xl.length xc wr (decide (smallN (.mk xk xn xs xl))) (zA rfl)).mono ?_
   rintro e wq ⟨rfl,hbq⟩
   have HBq:=zA (below_then hB.out hbq hB.out.size)
   clear y0 y1 y2 y3 v3 hB hbq
   by_cases hsm:smallN (.mk xk xn xs xl)
   ·rw [decide_eq_true hsm]
    go_wp2_with fail
    go_roundg (8 - (k+1))
    case rel=>exact⟨k+1,by omega,rfl,by go_num,zA (HSM2.out hsm),HBq⟩
    case measure=>omega
   ·rw [decide_eq_false hsm]
    have HZ9:=zA (HFS.out hsm)
    have HRq:=zA (show Blk wq w.heap.size _ _ from (HBq.out.block _ (lt_of_block HR2.out)).trans HR2.out)
    have HNq:=zA (show Blk wq (w.heap.size+1) _ _ from (HBq.out.block _ (lt_of_block HN2.out)).trans HN2.out)
    have HBW:=zA (HB2.out.trans (Below.lower HBq.out HB2.out.size))
    clear HSM2 HFS hsm
    have q0:=HRq.out.cell (j:=0) rfl
    have f0:=HRq.out.free 0
    have q1:=HRq.out.cell (j:=1) rfl
    have f1:=HRq.out.free 1
    have q2:=HRq.out.cell (j:=2) rfl
    have f2:=HRq.out.free 2
    have q3:=HRq.out.cell (j:=3) rfl
    have f3:=HRq.out.free 3
    have q4:=HRq.out.cell (j:=4) rfl
    have f4:=HRq.out.free 4
    have q5:=HRq.out.cell (j:=5) rfl
    have f5:=HRq.out.free 5
    have q6:=HRq.out.cell (j:=6) rfl
    have f6:=HRq.out.free 6
    have q7:=HRq.out.cell (j:=7) rfl
    have f7:=HRq.out.free 7
    have q8:=HRq.out.cell (j:=8) rfl
    have f8:=HRq.out.free 8
    have q9:=HRq.out.cell (j:=9) rfl
    have f9:=HRq.out.free 9
    have q10:=HRq.out.cell (j:=10) rfl
    have f10:=HRq.out.free 10
    have z0:=HNq.out.cell (j:=0) rfl
    have z1:=HNq.out.cell (j:=1) rfl
    have z2:=HNq.out.cell (j:=2) rfl
    have z3:=HNq.out.cell (j:=3) rfl
    have z4:=HNq.out.cell (j:=4) rfl
    have z5:=HNq.out.cell (j:=5) rfl
    have z6:=HNq.out.cell (j:=6) rfl
    have z7:=HNq.out.cell (j:=7) rfl
    have z8:=HNq.out.cell (j:=8) rfl
    have z9:=HNq.out.cell (j:=9) rfl
    have z10:=HNq.out.cell (j:=10) rfl
    go_wp2_with fail
    (try simp only [Exit.inBlock,Exit.then])
    have hz9:=blk_eleven HRq.out (.int .i64 0) (.int .i64 0) (.int .i64 0) (.int .i64 0) (.bool false) (.int .i64 0) (.int .i64 0) (.slice none 0 0) (.int .i64 0) (.string ⟨#[]⟩) (.slice none 0 0)
    have hg9:=grown_eleven (wq) w.heap.size (.int .i64 0) (.int .i64 0) (.int .i64 0) (.int .i64 0) (.bool false) (.int .i64 0) (.int .i64 0) (.slice none 0 0) (.int .i64 0) (.string ⟨#[]⟩) (.slice none 0 0)
    have HB9:=zA (HBW.out.grown hg9 HBW.out.size (fun q e=>by have:=Option.some.inj e; omega))
    refine bodyPost_ret (v:=.tuple #[.agg #[.int .i64 0,.int .i64 0,.int .i64 0,.int .i64 0,.bool false,.int .i64 0,.int .i64 0,.slice none 0 0,.int .i64 0,.string ⟨#[]⟩,.slice none 0 0],.int .i64 1]) ?_ rfl ?_
    ·exact results_row_tmp (p:=2) (u:=3) rfl _ _ w.heap.size 25 _ (0,0) _ rfl hz9 Tryz.underlying25 rfl (by kernel_rfl)
    ·rw [HZ9.out]; exact retM_zero _ HB9.out
  ·obtain rfl:k=8:=by omega
   have HFIRST:Hid (firstV (.mk 3 vn vt vl)):=zA ((firstV_iff _).2 HSM.out)
   obtain⟨xa0,xc0,-,-,g0,-,-⟩:=HEL.out 0 (by rw [HLEN.out]; decide)
   have n0:=cell_keep hB.out (cell_keep HK2.out g0)
   obtain⟨N0,hN0⟩:∃ y,y=(vl.getD 0 zeroV).n:=⟨_,rfl⟩
   rw [← hN0] at n0
   replace hN0:=zA hN0
   clear g0
   obtain⟨xa1,xc1,-,-,g1,-,-⟩:=HEL.out 1 (by rw [HLEN.out]; decide)
   have n1:=cell_keep hB.out (cell_keep HK2.out g1)
   obtain⟨N1,hN1⟩:∃ y,y=(vl.getD 1 zeroV).n:=⟨_,rfl⟩
   rw [← hN1] at n1
   replace hN1:=zA hN1
   clear g1
   obtain⟨xa2,xc2,-,-,g2,-,-⟩:=HEL.out 2 (by rw [HLEN.out]; decide)
   have n2:=cell_keep hB.out (cell_keep HK2.out g2)
   obtain⟨N2,hN2⟩:∃ y,y=(vl.getD 2 zeroV).n:=⟨_,rfl⟩
   rw [← hN2] at n2
   replace hN2:=zA hN2
   clear g2
   obtain⟨xa3,xc3,-,-,g3,-,-⟩:=HEL.out 3 (by rw [HLEN.out]; decide)
   have n3:=cell_keep hB.out (cell_keep HK2.out g3)
   obtain⟨N3,hN3⟩:∃ y,y=(vl.getD 3 zeroV).n:=⟨_,rfl⟩
   rw [← hN3] at n3
   replace hN3:=zA hN3
   clear g3
   obtain⟨xa4,xc4,-,-,g4,-,-⟩:=HEL.out 4 (by rw [HLEN.out]; decide)
   have n4:=cell_keep hB.out (cell_keep HK2.out g4)
   obtain⟨N4,hN4⟩:∃ y,y=(vl.getD 4 zeroV).n:=⟨_,rfl⟩
   rw [← hN4] at n4
   replace hN4:=zA hN4
   clear g4
   obtain⟨xa5,xc5,-,-,g5,-,-⟩:=HEL.out 5 (by rw [HLEN.out]; decide)
   have n5:=cell_keep hB.out (cell_keep HK2.out g5)
   obtain⟨N5,hN5⟩:∃ y,y=(vl.getD 5 zeroV).n:=⟨_,rfl⟩
   rw [← hN5] at n5
   replace hN5:=zA hN5
   clear g5
   obtain⟨xa6,xc6,-,-,g6,-,-⟩:=HEL.out 6 (by rw [HLEN.out]; decide)
   have n6:=cell_keep hB.out (cell_keep HK2.out g6)
   obtain⟨N6,hN6⟩:∃ y,y=(vl.getD 6 zeroV).n:=⟨_,rfl⟩
   rw [← hN6] at n6
   replace hN6:=zA hN6
   clear g6
   obtain⟨xa7,xc7,-,-,g7,-,-⟩:=HEL.out 7 (by rw [HLEN.out]; decide)
   have n7:=cell_keep hB.out (cell_keep HK2.out g7)
   obtain⟨N7,hN7⟩:∃ y,y=(vl.getD 7 zeroV).n:=⟨_,rfl⟩
   rw [← hN7] at n7
   replace hN7:=zA hN7
   clear g7
   simp only [Nat.reduceMul,Nat.zero_mul,Nat.add_zero,Nat.one_mul,Nat.add_assoc,Nat.reduceAdd] at n0 n1 n2 n3 n4 n5 n6 n7
   have n8:=cell_keep hB.out (show w2.cell? ⟨b,o+34,none⟩=some (.string E8.s) from m8_2.out)
   have n9:=cell_keep hB.out (show w2.cell? ⟨b,o+39,none⟩=some (.slice a9 E9.l.length c9) from m9_3.out)
   obtain⟨S8,hS8⟩:∃ y,y=E8.s:=⟨_,rfl⟩
   rw [← hS8] at n8
   have HS8:=zA hS8
   obtain⟨okb,hok⟩:∃ y,y=(N4==1):=⟨_,rfl⟩
   have HOK:=zA hok
   have HBR:=hB
   obtain⟨w4,hw4⟩:∃ y,y=wr:=⟨_,rfl⟩
   subst hw4
   clear hS8 HSM hk8 hk
   go_wp2_with fail
   have hb4:b<w4.heap.size:=by have:=HS2.out; have:=hB.out.size; omega
   refine wp_region_last (regOf Tryz.f15 12) [some 71,some 72,some 73,some 74,some 75,some 76,some 77,some 78,some 79,some 80,some 81,some 82,some 83,some 84,some 85,some 86,some 87,some 88,some 89,some 90,some 91,some 92,some 93,some 94,some 95,some 96,some 97,some 98,some 99,some 100,some 101,some 102,some 103,some 104,some 105,some 106,some 107,some 108,some 109,some 110,some 111,some 112,some 113,some 114,some 115,some 116,some 117,some 9] 48 (rgmT w1.heap.size b o vn vt vc N0 N1 N2 N3 N4 N5 N6 N7 S8 w4) (fun w'=>Below w4.heap.size w4 w') rgmD (by kernel_rfl) (by kernel_rfl) (by kernel_rfl) (by kernel_rfl) (by kernel_rfl) (by kernel_rfl) (by kernel_rfl) ((Below.refl _ _).drew)
    (rgm_steps w1.heap.size b o vn vt vc N0 N1 N2 N3 N4 N5 N6 N7 S8 w4 hb4 HVr.out n0 n1 n2 n3 n4 n5 n6 n7 n8 (by kernel_rfl) (by kernel_rfl)) ?_
   intro oL hoL vs w9 hn hCw9 hT KL hKL
   replace hn:vs.length=48:=hn
   obtain⟨v0,vs1,rfl,hn1⟩:=len_cons hn
   obtain⟨v1,vs2,rfl,hn2⟩:=len_cons hn1
   obtain⟨v2,vs3,rfl,hn3⟩:=len_cons hn2
   obtain⟨v3,vs4,rfl,hn4⟩:=len_cons hn3
   obtain⟨v4,vs5,rfl,hn5⟩:=len_cons hn4
   obtain⟨v5,vs6,rfl,hn6⟩:=len_cons hn5
   obtain⟨v6,vs7,rfl,hn7⟩:=len_cons hn6
   obtain⟨v7,vs8,rfl,hn8⟩:=len_cons hn7
   obtain⟨v8,vs9,rfl,hn9⟩:=len_cons hn8
   obtain⟨v9,vs10,rfl,hn10⟩:=len_cons hn9
   obtain⟨v10,vs11,rfl,hn11⟩:=len_cons hn10
   obtain⟨v11,vs12,rfl,hn12⟩:=len_cons hn11
   obtain⟨v12,vs13,rfl,hn13⟩:=len_cons hn12
   obtain⟨v13,vs14,rfl,hn14⟩:=len_cons hn13
   obtain⟨v14,vs15,rfl,hn15⟩:=len_cons hn14
   obtain⟨v15,vs16,rfl,hn16⟩:=len_cons hn15
   obtain⟨v16,vs17,rfl,hn17⟩:=len_cons hn16
   obtain⟨v17,vs18,rfl,hn18⟩:=len_cons hn17
   obtain⟨v18,vs19,rfl,hn19⟩:=len_cons hn18
   obtain⟨v19,vs20,rfl,hn20⟩:=len_cons hn19
   obtain⟨v20,vs21,rfl,hn21⟩:=len_cons hn20
   obtain⟨v21,vs22,rfl,hn22⟩:=len_cons hn21
   obtain⟨v22,vs23,rfl,hn23⟩:=len_cons hn22
   obtain⟨v23,vs24,rfl,hn24⟩:=len_cons hn23
   obtain⟨v24,vs25,rfl,hn25⟩:=len_cons hn24
   obtain⟨v25,vs26,rfl,hn26⟩:=len_cons hn25
   obtain⟨v26,vs27,rfl,hn27⟩:=len_cons hn26
   obtain⟨v27,vs28,rfl,hn28⟩:=len_cons hn27
   obtain⟨v28,vs29,rfl,hn29⟩:=len_cons hn28
   obtain⟨v29,vs30,rfl,hn30⟩:=len_cons hn29
   obtain⟨v30,vs31,rfl,hn31⟩:=len_cons hn30
   obtain⟨v31,vs32,rfl,hn32⟩:=len_cons hn31
   obtain⟨v32,vs33,rfl,hn33⟩:=len_cons hn32
   obtain⟨v33,vs34,rfl,hn34⟩:=len_cons hn33
   obtain⟨v34,vs35,rfl,hn35⟩:=len_cons hn34
   obtain⟨v35,vs36,rfl,hn36⟩:=len_cons hn35
   obtain⟨v36,vs37,rfl,hn37⟩:=len_cons hn36
   obtain⟨v37,vs38,rfl,hn38⟩:=len_cons hn37
   obtain⟨v38,vs39,rfl,hn39⟩:=len_cons hn38
   obtain⟨v39,vs40,rfl,hn40⟩:=len_cons hn39
   obtain⟨v40,vs41,rfl,hn41⟩:=len_cons hn40
   obtain⟨v41,vs42,rfl,hn42⟩:=len_cons hn41
   obtain⟨v42,vs43,rfl,hn43⟩:=len_cons hn42
   obtain⟨v43,vs44,rfl,hn44⟩:=len_cons hn43
   obtain⟨v44,vs45,rfl,hn45⟩:=len_cons hn44
   obtain⟨v45,vs46,rfl,hn46⟩:=len_cons hn45
   obtain⟨v46,vs47,rfl,hn47⟩:=len_cons hn46
   obtain⟨v47,vs48,rfl,hn48⟩:=len_cons hn47
   obtain rfl:=List.eq_nil_of_length_eq_zero hn48
   clear hn hn1 hn2 hn3 hn4 hn5 hn6 hn7 hn8 hn9 hn10 hn11 hn12 hn13 hn14 hn15 hn16 hn17 hn18 hn19 hn20 hn21 hn22 hn23 hn24 hn25 hn26 hn27 hn28 hn29 hn30 hn31 hn32 hn33 hn34 hn35 hn36 hn37 hn38 hn39 hn40 hn41 hn42 hn43 hn44 hn45 hn46 hn47 hn48
   obtain rfl:v0 = .pointer (some ⟨w1.heap.size,3,none⟩):=hT 0 v0 rfl (by kernel_rfl)
   obtain rfl:v1 = .slice (some ⟨b,o,none⟩) 11 vc:=hT 1 v1 rfl (by kernel_rfl)
   obtain rfl:v2 = .pointer (some ⟨b,o,none⟩):=hT 2 v2 rfl (by kernel_rfl)
   obtain rfl:v3 = .pointer (some ⟨b,o+1,none⟩):=hT 3 v3 rfl (by kernel_rfl)
   obtain rfl:v4 = .int .i64 N0:=hT 4 v4 rfl (by kernel_rfl)
   obtain rfl:v5 = .pointer (some ⟨w1.heap.size,3,none⟩):=hT 5 v5 rfl (by kernel_rfl)
   obtain rfl:v6 = .slice (some ⟨b,o,none⟩) 11 vc:=hT 6 v6 rfl (by kernel_rfl)
   obtain rfl:v7 = .pointer (some ⟨b,o+4,none⟩):=hT 7 v7 rfl (by kernel_rfl)
   obtain rfl:v8 = .pointer (some ⟨b,o+5,none⟩):=hT 8 v8 rfl (by kernel_rfl)
   obtain rfl:v9 = .int .i64 N1:=hT 9 v9 rfl (by kernel_rfl)
   obtain rfl:v10 = .pointer (some ⟨w1.heap.size,3,none⟩):=hT 10 v10 rfl (by kernel_rfl)
   obtain rfl:v11 = .slice (some ⟨b,o,none⟩) 11 vc:=hT 11 v11 rfl (by kernel_rfl)
   obtain rfl:v12 = .pointer (some ⟨b,o+8,none⟩):=hT 12 v12 rfl (by kernel_rfl)
   obtain rfl:v13 = .pointer (some ⟨b,o+9,none⟩):=hT 13 v13 rfl (by kernel_rfl)
   obtain rfl:v14 = .int .i64 N2:=hT 14 v14 rfl (by kernel_rfl)
   obtain rfl:v15 = .pointer (some ⟨w1.heap.size,3,none⟩):=hT 15 v15 rfl (by kernel_rfl)
   obtain rfl:v16 = .slice (some ⟨b,o,none⟩) 11 vc:=hT 16 v16 rfl (by kernel_rfl)
   obtain rfl:v17 = .pointer (some ⟨b,o+12,none⟩):=hT 17 v17 rfl (by kernel_rfl)
   obtain rfl:v18 = .pointer (some ⟨b,o+13,none⟩):=hT 18 v18 rfl (by kernel_rfl)
   obtain rfl:v19 = .int .i64 N3:=hT 19 v19 rfl (by kernel_rfl)
   obtain rfl:v20 = .pointer (some ⟨w1.heap.size,3,none⟩):=hT 20 v20 rfl (by kernel_rfl)
   obtain rfl:v21 = .slice (some ⟨b,o,none⟩) 11 vc:=hT 21 v21 rfl (by kernel_rfl)
   obtain rfl:v22 = .pointer (some ⟨b,o+16,none⟩):=hT 22 v22 rfl (by kernel_rfl)
   obtain rfl:v23 = .pointer (some ⟨b,o+17,none⟩):=hT 23 v23 rfl (by kernel_rfl)
   obtain rfl:v24 = .int .i64 N4:=hT 24 v24 rfl (by kernel_rfl)
   obtain rfl:v25 = .bool (N4==1):=hT 25 v25 rfl (by kernel_rfl)
   obtain rfl:v26 = .pointer (some ⟨w1.heap.size,3,none⟩):=hT 26 v26 rfl (by kernel_rfl)
   obtain rfl:v27 = .slice (some ⟨b,o,none⟩) 11 vc:=hT 27 v27 rfl (by kernel_rfl)
   obtain rfl:v28 = .pointer (some ⟨b,o+20,none⟩):=hT 28 v28 rfl (by kernel_rfl)
   obtain rfl:v29 = .pointer (some ⟨b,o+21,none⟩):=hT 29 v29 rfl (by kernel_rfl)
   obtain rfl:v30 = .int .i64 N5:=hT 30 v30 rfl (by kernel_rfl)
   obtain rfl:v31 = .pointer (some ⟨w1.heap.size,3,none⟩):=hT 31 v31 rfl (by kernel_rfl)
   obtain rfl:v32 = .slice (some ⟨b,o,none⟩) 11 vc:=hT 32 v32 rfl (by kernel_rfl)
   obtain rfl:v33 = .pointer (some ⟨b,o+24,none⟩):=hT 33 v33 rfl (by kernel_rfl)
   obtain rfl:v34 = .pointer (some ⟨b,o+25,none⟩):=hT 34 v34 rfl (by kernel_rfl)
   obtain rfl:v35 = .int .i64 N6:=hT 35 v35 rfl (by kernel_rfl)
   obtain rfl:v36 = .pointer (some ⟨w1.heap.size,3,none⟩):=hT 36 v36 rfl (by kernel_rfl)
   obtain rfl:v37 = .slice (some ⟨b,o,none⟩) 11 vc:=hT 37 v37 rfl (by kernel_rfl)
   obtain rfl:v38 = .pointer (some ⟨b,o+28,none⟩):=hT 38 v38 rfl (by kernel_rfl)
   obtain rfl:v39 = .pointer (some ⟨b,o+29,none⟩):=hT 39 v39 rfl (by kernel_rfl)
   obtain rfl:v40 = .int .i64 N7:=hT 40 v40 rfl (by kernel_rfl)
   obtain rfl:v41 = .pointer (some ⟨w1.heap.size,3,none⟩):=hT 41 v41 rfl (by kernel_rfl)
   obtain rfl:v42 = .slice (some ⟨b,o,none⟩) 11 vc:=hT 42 v42 rfl (by kernel_rfl)
   obtain rfl:v43 = .pointer (some ⟨b,o+32,none⟩):=hT 43 v43 rfl (by kernel_rfl)
   obtain rfl:v44 = .pointer (some ⟨b,o+34,none⟩):=hT 44 v44 rfl (by kernel_rfl)
   obtain rfl:v45 = .string S8:=hT 45 v45 rfl (by kernel_rfl)
   obtain rfl:v46 = .agg #[.int .i64 N0,.int .i64 N1,.int .i64 N2,.int .i64 N3,.bool (N4==1),.int .i64 N5,.int .i64 N6,.slice none 0 0,.int .i64 N7,.string S8,.slice none 0 0]:=hT 46 v46 rfl (by kernel_rfl)
   have t47:=zA (hT 47 v47 rfl (by kernel_rfl))
   clear hT
   have hoL1:=opIs hoL (p:=.store 25 (.tmp 9) (.tmp 117)) (by kernel_rfl)
   have hgL:=guardIs hoL (p:=none) (by kernel_rfl)
   have hdL:oL.dst=none:=by have:=(show ((regOf Tryz.f15 12)[48]?).map (·.dst)=some (none) by kernel_rfl); rw [hoL] at this; simpa using this
   rw [if_pos (wanted_free hgL)]
   rw [hdL] at hKL
   simp only [puts,Act.put,List.setIfInBounds_toArray,List.set_cons_succ,List.set_cons_zero] at hKL ⊢
   obtain⟨g,rfl,hgl,hgb⟩:=t47.out
   have HBK:Blk w9 g 25 [.int .i64 0,.int .i64 0,.int .i64 0,.int .i64 0,.bool false,.int .i64 0,.int .i64 0,.slice none 0 0,.int .i64 0,.string ⟨#[]⟩,.slice none 0 0]:=hgb
   have q0:=HBK.cell (j:=0) rfl
   have f0:=HBK.free 0
   have q1:=HBK.cell (j:=1) rfl
   have f1:=HBK.free 1
   have q2:=HBK.cell (j:=2) rfl
   have f2:=HBK.free 2
   have q3:=HBK.cell (j:=3) rfl
   have f3:=HBK.free 3
   have q4:=HBK.cell (j:=4) rfl
   have f4:=HBK.free 4
   have q5:=HBK.cell (j:=5) rfl
   have f5:=HBK.free 5
   have q6:=HBK.cell (j:=6) rfl
   have f6:=HBK.free 6
   have q7:=HBK.cell (j:=7) rfl
   have f7:=HBK.free 7
   have q8:=HBK.cell (j:=8) rfl
   have f8:=HBK.free 8
   have q9:=HBK.cell (j:=9) rfl
   have f9:=HBK.free 9
   have q10:=HBK.cell (j:=10) rfl
   have f10:=HBK.free 10
   unfold Oper.wp
   rw [show (execOp _ oL).run Tryz.prog w9 = .ok .skip (((((((((((w9.setCell ⟨g,0,none⟩ (.int .i64 N0)).setCell ⟨g,1,none⟩ (.int .i64 N1)).setCell ⟨g,2,none⟩ (.int .i64 N2)).setCell ⟨g,3,none⟩ (.int .i64 N3)).setCell ⟨g,4,none⟩ (.bool (N4==1))).setCell ⟨g,5,none⟩ (.int .i64 N5)).setCell ⟨g,6,none⟩ (.int .i64 N6)).setCell ⟨g,7,none⟩ (.slice none 0 0)).setCell ⟨g,8,none⟩ (.int .i64 N7)).setCell ⟨g,9,none⟩ (.string S8)).setCell ⟨g,10,none⟩ (.slice none 0 0)) by unfold execOp; simp only [hoL1]; simp [go_sem,q0,q1,q2,q3,q4,q5,q6,q7,q8,q9,q10,f0,f1,f2,f3,f4,f5,f6,f7,f8,f9,f10]]
   show KL (Act.put _ oL.dst undef) _
   rw [hdL]
   refine hKL undef _ ?_
   have hm5:=blk_eleven HBK (.int .i64 N0) (.int .i64 N1) (.int .i64 N2) (.int .i64 N3) (.bool (N4==1)) (.int .i64 N5) (.int .i64 N6) (.slice none 0 0) (.int .i64 N7) (.string S8) (.slice none 0 0)
   have hg5:=grown_eleven w9 g (.int .i64 N0) (.int .i64 N1) (.int .i64 N2) (.int .i64 N3) (.bool (N4==1)) (.int .i64 N5) (.int .i64 N6) (.slice none 0 0) (.int .i64 N7) (.string S8) (.slice none 0 0)
   rw [← hok] at hm5 hg5 ⊢
   have HM5:=zA hm5
   have HB5:=zA (hCw9.grown hg5 hCw9.size (fun q e=>by have:=Option.some.inj e; omega))
   have HG1:=zA hgl
   have HG2:=zA (show g<_ from Nat.lt_of_lt_of_le (lt_of_block hgb) hg5.size)
   clear q0 q1 q2 q3 q4 q5 q6 q7 q8 q9 q10 f0 f1 f2 f3 f4 f5 f6 f7 f8 f9 f10 hm5 hg5 hgl hgb HBK t47 hoL hoL1 hgL hdL hCw9 n0 n1 n2 n3 n4 n5 n6 n7 n8
   have n9':=cell_keep HB5.out n9
   have v3':=cell_keep HB5.out v3
   clear n9 v3
   generalize (((((((((((w9.setCell ⟨g,0,none⟩ (.int .i64 N0)).setCell ⟨g,1,none⟩ (.int .i64 N1)).setCell ⟨g,2,none⟩ (.int .i64 N2)).setCell ⟨g,3,none⟩ (.int .i64 N3)).setCell ⟨g,4,none⟩ (.bool okb)).setCell ⟨g,5,none⟩ (.int .i64 N5)).setCell ⟨g,6,none⟩ (.int .i64 N6)).setCell ⟨g,7,none⟩ (.slice none 0 0)).setCell ⟨g,8,none⟩ (.int .i64 N7)).setCell ⟨g,9,none⟩ (.string S8)).setCell ⟨g,10,none⟩ (.slice none 0 0))=w5 at *
   clear hok
   go_wp2_with fail
   clear n9' v3'
   have HLEN9:Hid (E9.l.length≤4000):=zA (by
    have h:=getL_ok s HBA.out
    rw [HHV.out] at h
    exact fld_few h.2.2.1 9 (by rw [HLEN.out]; decide) hE9.out)
   have HLEN10:Hid (E10.l.length≤4000):=zA (by
    have h:=getL_ok s HBA.out
    rw [HHV.out] at h
    exact fld_few h.2.2.1 10 (by rw [HLEN.out]; decide) hE10.out)
   have HB24:=zA hB.out
   have hs5:=HG2.out
   have hg4:=HG1.out
   have hs4:w2.heap.size≤w4.heap.size:=hB.out.size
   obtain⟨i0,hi0,hz0,hz1,hz2⟩:=infoI
   have HI0:=zA hi0
   have HZZ:=zA (And.intro hz0 (And.intro hz1 hz2))
   clear hi0 hz0 hz1 hz2 hB
   go_loopg [124] E9.l.length (fun gk v wr=>∃ (k:Nat) (va2:Option Addr) (vc2:Nat),k≤E9.l.length∧gk=E9.l.length - k∧v = .int .i64 (k:Int)∧Hid (∀ y∈E9.l.take k,smallN y)∧Hid (Blk wr g 25 [.int .i64 N0,.int .i64 N1,.int .i64 N2,.int .i64 N3,.bool okb,.int .i64 N5,.int .i64 N6,.slice none 0 0,.int .i64 N7,.string S8,.slice va2 k vc2])∧Hid (wr.ownsRow w5.heap.size 3 1 (.slice va2 k vc2) k (i64s ((E9.l.take k).map V.n)))∧Hid (Below w4.heap.size w4 wr)∧Hid (w5.heap.size≤wr.heap.size))
   case atStart=>exact⟨0,none,0,Nat.zero_le _,rfl,rfl,zA (fun y hy=>by simp at hy),HM5,zA (World.ownsRow_nil _ _ _ _),HB5,zA (Nat.le_refl _)⟩
   case round =>
    clear HM5 HB5
    obtain⟨k,va2,vc2,hk,rfl,rfl,HSM,hM,hO,hB,hS⟩:=hrel
    by_cases hkn:k<E9.l.length
    ·have hki:(k:Int)<(E9.l.length:Int):=by omega
     have HKN:=zA hkn
     have hl9:=HLEN9.out
     obtain⟨b9,o9,cs9,rfl,hSb,hat9,hc9⟩:=HALL9.out.at 0 E9.l k hkn
     rw [Nat.zero_add] at hc9
     have HLT:Hid (∀ n,E9.l[k].n=n→i64s ((E9.l.take k).map V.n)++[.int .i64 n]=i64s ((E9.l.take (k+1)).map V.n)):=zA (fun n hn=>by rw [← hn,List.take_add_one,List.getElem?_eq_getElem hkn,List.map_append]; exact (i64s_snoc _ _).symm)
     have HSM2:Hid (smallN E9.l[k]→∀ y∈E9.l.take (k+1),smallN y):=zA (fun h y hy=>by
      rw [List.take_add_one,List.getElem?_eq_getElem hkn,List.mem_append] at hy
      rcases hy with hy | hy
      ·exact HSM.out y hy
      ·rw [Option.toList_some,List.mem_singleton] at hy; rw [hy]; exact h)
     have HFS:Hid (¬ smallN E9.l[k]→x=(Ms.zero,1)):=zA (fun h=>by rw [HX.out]; unfold readM; rw [if_neg]; exact fun h2=>h (h2.2.2.1 _ (by show _∈(vl.getD 9 zeroV).l; rw [← hE9.out]; exact List.getElem_mem hkn)))
     generalize E9.l[k]=x9 at *
     obtain⟨xk,xn,xs,xl⟩:=x9
     simp only [V.At] at hat9
     obtain⟨xa,xc,rfl,-,-,-⟩:=hat9
     have HB2r:=zA (HB24.out.trans (Below.lower hB.out HB24.out.size))
     have y0:=cell_keep HB2r.out (hc9 0 _ rfl)
     have y1:=cell_keep HB2r.out (hc9 1 _ rfl)
     have y2:=cell_keep HB2r.out (hc9 2 _ rfl)
     have y3:=cell_keep HB2r.out (hc9 3 _ rfl)
     simp only [Nat.add_zero] at y0
     clear hc9
     have hbq:Below wr.heap.size wr (wr.alloc (.cells #[.int .i64 xk,.int .i64 xn,.string xs,.slice xa xl.length xc] 70)):=(Below.refl _ wr).alloc (Nat.le_refl _) _
     have HMq:=zA (hM.out.keep hbq)
     have HOq:=zA (own_under hO.out hbq)
     have HBq:=zA (hB.out.trans (Below.lower hbq hB.out.size))
     have HXq:Hid (Blk (wr.alloc (.cells #[.int .i64 xk,.int .i64 xn,.string xs,.slice xa xl.length xc] 70)) wr.heap.size 70 [.int .i64 xk,.int .i64 xn,.string xs,.slice xa xl.length xc]):=zA (heap_alloc_new wr _)
     have HSq:Hid (w5.heap.size≤(wr.alloc (.cells #[.int .i64 xk,.int .i64 xn,.string xs,.slice xa xl.length xc] 70)).heap.size):=zA (by have:=hS.out; simp; omega)
     clear hbq hM hO hB hS HB2r HSM
     go_upto_region 16 with fail
     clear y0 y1 y2 y3
     generalize (wr.alloc (.cells #[.int .i64 xk,.int .i64 xn,.string xs,.slice xa xl.length xc] 70))=wq at *
     have x0:=HXq.out.cell (j:=0) rfl
     have x1:=HXq.out.cell (j:=1) rfl
     have x2:=HXq.out.cell (j:=2) rfl
     have x3:=HXq.out.cell (j:=3) rfl
     go_wp2_with fail
     refine (rsmall_any xk xn xs xa xl.length xc wq (decide (smallN (.mk xk xn xs xl))) (zA rfl)).mono ?_
     rintro e wz ⟨rfl,hbz⟩
     have HMz:=zA (HMq.out.keep hbz)
     have HOz:=zA (own_under HOq.out hbz)
     have HBz:=zA (below_then HBq.out hbz HBq.out.size)
     have HXz:=zA (HXq.out.keep hbz)
     have HSz:=zA (Nat.le_trans HSq.out hbz.size)
     clear x0 x1 x2 x3 hbz HMq HOq HBq HXq HSq
     by_cases hsm:smallN (.mk xk xn xs xl)
     ·rw [decide_eq_true hsm]
      have HSM3:=zA (HSM2.out hsm)
      have x1:=HXz.out.cell (j:=1) rfl
      have m10:=HMz.out.cell (j:=10) rfl
      have hown:=HOz.out
      have hi0:=HI0.out
      obtain⟨hz0,hz1,hz2⟩:=HZZ.out
      have hsz:=HSz.out
      clear HSM2 HFS hsm
      go_wp2_with (at_builtin; refine wpList_app1 wz rfl _ _ 23 rfl w5.heap.size 3 i0 (.int .i64 0) 8 Tryz.underlying23 hi0 hz0 hz1 hz2 rfl _ _ _ hown rfl (.int .i64 xn) 3 rfl rfl ?c3 ?c4 ?c5 ?_)
      case c3=>unfold maxLen; omega
      case c4=>omega
      case c5=>omega
      intro v' w8 hown' hgrow hblk
      obtain⟨a3,c3,rfl⟩:=own_sliceN hown'
      have HM8:=zA (HMz.out.kept hgrow (fun e=>by have:=(hown.lt _ e.symm).1; omega))
      have HB8:=zA (HBz.out.grown hgrow HBz.out.size (fun q e=>by have:=(hown.lt q e).1; omega))
      have HS8:=zA (Nat.le_trans hsz hgrow.size)
      have HO8:=zA (show w8.ownsRow w5.heap.size 3 1 (.slice a3 (k+1) c3) (k+1) (i64s ((E9.l.take (k+1)).map V.n)) from by rw [← HLT.out xn rfl,List.map_take]; exact hown')
      clear x1 m10 hown hi0 hz0 hz1 hz2 hown' hgrow hblk hsz HMz HOz HBz HXz HSz
      have m10:=HM8.out.cell (j:=10) rfl
      have f10:=HM8.out.free 10
      go_wp2_with fail
      clear m10 f10
      have hkn9:=HKN.out
      have hg:=grown_setCell w8 g 10 (.slice a3 (k+1) c3)
      go_roundg (E9.l.length - (k+1))
      case rel=>exact⟨k+1,a3,c3,hkn9,rfl,by go_num,HSM3,zA (HM8.out.set 10 _),zA (own_kept HO8.out hg (by omega)),zA (HB8.out.grown hg HB8.out.size (fun q e=>by have:=Option.some.inj e; omega)),zA (Nat.le_trans HS8.out hg.size)⟩
      case measure=>omega
     ·rw [decide_eq_false hsm]
      have HZ9:=zA (HFS.out hsm)
      have HB2z:=zA (HB24.out.trans (Below.lower HBz.out HB24.out.size))
      have HRz:=zA (show Blk wz w.heap.size _ _ from (HB2z.out.block _ (lt_of_block HR2.out)).trans HR2.out)
      have HNz:=zA (show Blk wz (w.heap.size+1) _ _ from (HB2z.out.block _ (lt_of_block HN2.out)).trans HN2.out)
      have HBW:=zA (HB2.out.trans (Below.lower HB2z.out HB2.out.size))
      clear HSM2 HFS hsm HMz HOz HXz
      have q0:=HRz.out.cell (j:=0) rfl
      have f0:=HRz.out.free 0
      have q1:=HRz.out.cell (j:=1) rfl
      have f1:=HRz.out.free 1
      have q2:=HRz.out.cell (j:=2) rfl
      have f2:=HRz.out.free 2
      have q3:=HRz.out.cell (j:=3) rfl
      have f3:=HRz.out.free 3
      have q4:=HRz.out.cell (j:=4) rfl
      have f4:=HRz.out.free 4
      have q5:=HRz.out.cell (j:=5) rfl
      have f5:=HRz.out.free 5
      have q6:=HRz.out.cell (j:=6) rfl
      have f6:=HRz.out.free 6
      have q7:=HRz.out.cell (j:=7) rfl
      have f7:=HRz.out.free 7
      have q8:=HRz.out.cell (j:=8) rfl
      have f8:=HRz.out.free 8
      have q9:=HRz.out.cell (j:=9) rfl
      have f9:=HRz.out.free 9
      have q10:=HRz.out.cell (j:=10) rfl
      have f10:=HRz.out.free 10
      have z0:=HNz.out.cell (j:=0) rfl
      have z1:=HNz.out.cell (j:=1) rfl
      have z2:=HNz.out.cell (j:=2) rfl
      have z3:=HNz.out.cell (j:=3) rfl
      have z4:=HNz.out.cell (j:=4) rfl
      have z5:=HNz.out.cell (j:=5) rfl
      have z6:=HNz.out.cell (j:=6) rfl
      have z7:=HNz.out.cell (j:=7) rfl
      have z8:=HNz.out.cell (j:=8) rfl
      have z9:=HNz.out.cell (j:=9) rfl
      have z10:=HNz.out.cell (j:=10) rfl
      go_wp2_with fail
      (try simp only [Exit.inBlock,Exit.then])
      have hz9:=blk_eleven HRz.out (.int .i64 0) (.int .i64 0) (.int .i64 0) (.int .i64 0) (.bool false) (.int .i64 0) (.int .i64 0) (.slice none 0 0) (.int .i64 0) (.string ⟨#[]⟩) (.slice none 0 0)
      have hg9:=grown_eleven (wz) w.heap.size (.int .i64 0) (.int .i64 0) (.int .i64 0) (.int .i64 0) (.bool false) (.int .i64 0) (.int .i64 0) (.slice none 0 0) (.int .i64 0) (.string ⟨#[]⟩) (.slice none 0 0)
      have HB9:=zA (HBW.out.grown hg9 HBW.out.size (fun q e=>by have:=Option.some.inj e; omega))
      refine bodyPost_ret (v:=.tuple #[.agg #[.int .i64 0,.int .i64 0,.int .i64 0,.int .i64 0,.bool false,.int .i64 0,.int .i64 0,.slice none 0 0,.int .i64 0,.string ⟨#[]⟩,.slice none 0 0],.int .i64 1]) ?_ rfl ?_
      ·exact results_row_tmp (p:=2) (u:=3) rfl _ _ w.heap.size 25 _ (0,0) _ rfl hz9 Tryz.underlying25 rfl (by kernel_rfl)
      ·rw [HZ9.out]; exact retM_zero _ HB9.out
    ·obtain rfl:k=E9.l.length:=by omega
     have hsm9:=HSM.out
     have ho9:=hO.out
     rw [List.take_length] at hsm9 ho9
     have HVS:=zA hsm9
     obtain⟨w7,hw7⟩:∃ y,y=wr:=⟨_,rfl⟩
     subst hw7
     obtain⟨VL,hVL⟩:∃ y,y=E9.l.map V.n:=⟨_,rfl⟩
     rw [← hVL] at ho9
     have HVL:=zA hVL
     obtain⟨N9,hN9⟩:∃ y,y=E9.l.length:=⟨_,rfl⟩
     rw [← hN9] at ho9 hM ⊢
     have HN9:=zA hN9
     have HO2:=zA ho9
     have HB27:=zA (HB24.out.trans (Below.lower hB.out HB24.out.size))
     have HV7:=zA (show Four w7 w1.heap.size _ _ _ _ _ from (HB27.out.block _ (by have:=HS2.out; omega)).trans HV2.out)
     have v3:=HV7.out.c3
     have y43:=cell_keep HB27.out (show w2.cell? ⟨b,o+43,none⟩=some (.slice a10 E10.l.length c10) from m10_3.out)
     have hs7:=hS.out
     clear HSM hsm9 ho9 hO hk hkn hVL hN9
     go_wp2_with fail
     clear v3 y43 HV7
     go_loopg [146] E10.l.length (fun gk v wr=>∃ (k:Nat) (va3:Option Addr) (vc3:Nat) (l3:List Rc),k≤E10.l.length∧gk=E10.l.length - k∧v = .int .i64 (k:Int)∧Hid (l3=(E10.l.take k).map recRead)∧Hid (∀ y∈E10.l.take k,recIs y)∧Hid (Blk wr g 25 [.int .i64 N0,.int .i64 N1,.int .i64 N2,.int .i64 N3,.bool okb,.int .i64 N5,.int .i64 N6,.slice va3 l3.length vc3,.int .i64 N7,.string S8,.slice va2 N9 vc2])∧Hid (wr.ownsRow w7.heap.size 67 3 (.slice va3 l3.length vc3) l3.length (rcE.cells l3))∧Hid (Below w4.heap.size w4 wr)∧Hid (w7.heap.size≤wr.heap.size)∧Hid (∀ q,q<w7.heap.size→q≠g→wr.heap[q]? = w7.heap[q]?))
     case atStart=>exact⟨0,none,0,[],Nat.zero_le _,rfl,rfl,zA rfl,zA (fun y hy=>by simp at hy),hM,zA (World.ownsRow_nil _ _ _ _),hB,zA (Nat.le_refl _),zA (fun _ _ _=>rfl)⟩
     case round =>
      clear hM hB
      obtain⟨k,va3,vc3,l3,hk,rfl,rfl,HL3,HRI,hM,hO,hB,hS7,hQ⟩:=hrel
      by_cases hkn:k<E10.l.length
      ·have hki:(k:Int)<(E10.l.length:Int):=by omega
       have HKN:=zA hkn
       have hl9:=HLEN10.out
       obtain⟨b9,o9,cs9,rfl,hSb,hat9,hc9⟩:=HALL10.out.at 0 E10.l k hkn
       rw [Nat.zero_add] at hc9
       have HLT:Hid (l3++[recRead E10.l[k]]=(E10.l.take (k+1)).map recRead):=zA (by rw [HL3.out,List.take_add_one,List.getElem?_eq_getElem hkn,List.map_append]; rfl)
       have HRI2:Hid (recIs E10.l[k]→∀ y∈E10.l.take (k+1),recIs y):=zA (fun hr y hy=>by
        rw [List.take_add_one,List.getElem?_eq_getElem hkn,List.mem_append] at hy
        rcases hy with hy | hy
        ·exact HRI.out y hy
        ·rw [Option.toList_some,List.mem_singleton] at hy; rw [hy]; exact hr)
       have HFS:Hid (¬ recIs E10.l[k]→x=(Ms.zero,1)):=zA (fun h=>by rw [HX.out]; unfold readM; rw [if_neg]; exact fun h2=>h (h2.2.2.2.1 _ (by show _∈(vl.getD 10 zeroV).l; rw [← hE10.out]; exact List.getElem_mem hkn)))
       have HN3:Hid (l3.length≤1000000):=zA (by rw [HL3.out,List.length_map,List.length_take]; have:=HLEN10.out; omega)
       generalize E10.l[k]=x9 at *
       obtain⟨xk,xn,xs,xl⟩:=x9
       simp only [V.At] at hat9
       obtain⟨xa,xc,rfl,-,-,hall9⟩:=hat9
       have HB2r:=zA (HB24.out.trans (Below.lower hB.out HB24.out.size))
       have y0:=cell_keep HB2r.out (hc9 0 _ rfl)
       have y1:=cell_keep HB2r.out (hc9 1 _ rfl)
       have y2:=cell_keep HB2r.out (hc9 2 _ rfl)
       have y3:=cell_keep HB2r.out (hc9 3 _ rfl)
       simp only [Nat.add_zero] at y0
       clear hc9
       have hbq:Below wr.heap.size wr (wr.alloc (.cells #[.int .i64 xk,.int .i64 xn,.string xs,.slice xa xl.length xc] 70)):=(Below.refl _ wr).alloc (Nat.le_refl _) _
       have HMq:=zA (hM.out.keep hbq)
       have HOq:=zA (own_under hO.out hbq)
       have HBq:=zA (hB.out.trans (Below.lower hbq hB.out.size))
       have HB2q:=zA (HB2r.out.trans (Below.lower hbq HB2r.out.size))
       have HXq:Hid (Blk (wr.alloc (.cells #[.int .i64 xk,.int .i64 xn,.string xs,.slice xa xl.length xc] 70)) wr.heap.size 70 [.int .i64 xk,.int .i64 xn,.string xs,.slice xa xl.length xc]):=zA (heap_alloc_new wr _)
       have HSq:Hid ((wr.alloc (.cells #[.int .i64 xk,.int .i64 xn,.string xs,.slice xa xl.length xc] 70)).heap.size=wr.heap.size+1):=zA (by simp)
       have HQq:=zA (fun q (h1:q<w7.heap.size) (h2:q≠g)=>(hbq.block q (Nat.lt_of_lt_of_le h1 hS7.out)).trans (hQ.out q h1 h2))
       have HOL:=zA hO.out.lt
       have HALX:=zA hall9
       have hsr:=hS7.out
       clear hbq hM hO hB hS7 hQ hall9 HB2r HRI
       go_upto_region 23 with fail
       clear y0 y1 y2 y3
       generalize (wr.alloc (.cells #[.int .i64 xk,.int .i64 xn,.string xs,.slice xa xl.length xc] 70))=wq at *
       have HRq:=zA (show Blk wq w.heap.size _ _ from (HB2q.out.block _ (lt_of_block HR2.out)).trans HR2.out)
       have HNq:=zA (show Blk wq (w.heap.size+1) _ _ from (HB2q.out.block _ (lt_of_block HN2.out)).trans HN2.out)
       have HBW:=zA (HB2.out.trans (Below.lower HB2q.out HB2.out.size))
       have x0:=HXq.out.cell (j:=0) rfl
       have x3:=HXq.out.cell (j:=3) rfl
       by_cases hk3:xk=3
       ·subst hk3
        by_cases hl3:xl.length=3
        ·obtain⟨b8,o8,rfl,hS8,hel⟩:=elemsV HALX.out (by rw [hl3]; decide)
         obtain⟨za0,zc0,-,m0,m1,m2,m3⟩:=hel 0 (by rw [hl3]; decide)
         obtain⟨za1,zc1,-,m4,m5,m6,m7⟩:=hel 1 (by rw [hl3]; decide)
         obtain⟨za2,zc2,-,m8,m9,m10,m11⟩:=hel 2 (by rw [hl3]; decide)
         simp only [Nat.zero_mul,Nat.one_mul,Nat.add_zero,Nat.reduceMul,Nat.add_assoc,Nat.reduceAdd] at m0 m1 m2 m3 m4 m5 m6 m7 m8 m9 m10 m11
         rw [hl3] at x3 HXq
         have hb8:b8<w2.heap.size:=by have:=HS2.out; omega
         obtain⟨G0,hG0⟩:∃ y,y=xl.getD 0 zeroV:=⟨_,rfl⟩
         obtain⟨G1,hG1⟩:∃ y,y=xl.getD 1 zeroV:=⟨_,rfl⟩
         obtain⟨G2,hG2⟩:∃ y,y=xl.getD 2 zeroV:=⟨_,rfl⟩
         rw [← hG0] at m0 m1 m2 m3
         rw [← hG1] at m4 m5 m6 m7
         rw [← hG2] at m8 m9 m10 m11
         have HFLD:Hid (recIs (.mk 3 xn xs xl)↔(smallN G0∧smallN G1∧G2.k=2)):=zA (by rw [hG0,hG1,hG2]; exact⟨fun h=>h.2.2,fun h=>⟨rfl,hl3,h⟩⟩)
         have HRC:Hid (recRead (.mk 3 xn xs xl)=⟨G0.n,G1.n,G2.s⟩):=zA (by rw [hG0,hG1,hG2]; rfl)
         have HMS:=zA (And.intro m1 (And.intro m5 m10))
         have y0:=cell_keep HB2q.out m0
         have y1:=cell_keep HB2q.out m1
         have y2:=cell_keep HB2q.out m2
         have y3:=cell_keep HB2q.out m3
         have hxl:((xl.length:Int) != 3)=false:=by simp; omega
         rw [hl3]
         clear hel hG0 hG1 hG2 hl3 hxl HALX m0 m1 m2 m3 m5 m9 m10 m11
         obtain⟨k0,n0,s0,l0⟩:=G0
         simp only [V.k,V.n,V.s,V.l] at y0 y1 y2 y3
         go_wp2_with fail
         refine (rsmall_any k0 n0 s0 za0 l0.length zc0 wq (decide (smallN (.mk k0 n0 s0 l0))) (zA rfl)).mono ?_
         rintro e wa ⟨rfl,hba⟩
         have HMa:=zA (HMq.out.keep hba)
         have HOa:=zA (own_under HOq.out hba)
         have HBa:=zA (below_then HBq.out hba HBq.out.size)
         have HB2a:=zA (below_then HB2q.out hba HB2q.out.size)
         have HXa:=zA (HXq.out.keep hba)
         have HSa:=zA (show wr.heap.size+1≤wa.heap.size from Nat.le_trans (Nat.le_of_eq HSq.out.symm) hba.size)
         have HQa:=zA (fun q (h1:q<w7.heap.size) (h2:q≠g)=>(hba.block q (by have:=HSq.out; omega)).trans (HQq.out q h1 h2))
         have HRa:=zA (HRq.out.keep hba)
         have HNa:=zA (HNq.out.keep hba)
         have HBWa:=zA (below_then HBW.out hba HBW.out.size)
         clear x0 x3 y0 y1 y2 y3 hba
         by_cases hs0:smallN (.mk k0 n0 s0 l0)
         ·rw [decide_eq_true hs0]
          obtain⟨k1,n1,s1,l1⟩:=G1
          have x3:=HXa.out.cell (j:=3) rfl
          have y0:=cell_keep HB2a.out m4
          have y1:=cell_keep HB2a.out HMS.out.2.1
          have y2:=cell_keep HB2a.out m6
          have y3:=cell_keep HB2a.out m7
          simp only [V.k,V.n,V.s,V.l] at y0 y1 y2 y3
          go_wp2_with fail
          refine (rsmall_any k1 n1 s1 za1 l1.length zc1 wa (decide (smallN (.mk k1 n1 s1 l1))) (zA rfl)).mono ?_
          rintro e wb ⟨rfl,hbb⟩
          have HMb:=zA (HMa.out.keep hbb)
          have HOb:=zA (own_under HOa.out hbb)
          have HBb:=zA (below_then HBa.out hbb HBa.out.size)
          have HB2b:=zA (below_then HB2a.out hbb HB2a.out.size)
          have HXb:=zA (HXa.out.keep hbb)
          have HSb:=zA (show wr.heap.size+1≤wb.heap.size from Nat.le_trans (HSa.out) hbb.size)
          have HQb:=zA (fun q (h1:q<w7.heap.size) (h2:q≠g)=>(hbb.block q (by have:=HSa.out; omega)).trans (HQa.out q h1 h2))
          have HRb:=zA (HRa.out.keep hbb)
          have HNb:=zA (HNa.out.keep hbb)
          have HBWb:=zA (below_then HBWa.out hbb HBWa.out.size)
          clear x3 y0 y1 y2 y3 hbb HMa HOa HBa HB2a HXa HSa HQa HRa HNa HBWa
          by_cases hs1:smallN (.mk k1 n1 s1 l1)
          ·rw [decide_eq_true hs1]
           by_cases hk2:G2.k=2
           ·have hrn:=HFLD.out.2 ⟨hs0,hs1,hk2⟩
            have HRI3:=zA (HRI2.out hrn)
            have x3:=HXb.out.cell (j:=3) rfl
            have y8:=cell_keep HB2b.out m8
            rw [hk2] at y8
            clear hrn hs0 hs1 hk2 HRI2 HFS HFLD m4 m6 m7 m8
            go_wp2_with fail
            clear x3 y8
            have HRC2:=zA (show recRead (.mk 3 xn xs xl)=⟨n0,n1,G2.s⟩ from HRC.out)
            have c1:=cell_keep HB24.out (show w2.cell? ⟨b8,o8+1,none⟩=some (.int .i64 n0) from HMS.out.1)
            have c5:=cell_keep HB24.out (show w2.cell? ⟨b8,o8+5,none⟩=some (.int .i64 n1) from HMS.out.2.1)
            have c10':=cell_keep HB24.out HMS.out.2.2
            clear HRC
            generalize G2.s=sd at *
            refine wp_region_lastE (regOf Tryz.f15 25) [some 184,some 185,some 186,some 187,some 188,some 189,some 190,some 191,some 192,some 193,some 194,some 195,some 196,some 197,some 198,some 199,some 200,some 201,some 202,some 203,some 204] 21 (rgrT g wr.heap.size w7.heap.size b8 o8 3 xn xs xc n0 n1 sd va3 vc3 [.int .i64 N0,.int .i64 N1,.int .i64 N2,.int .i64 N3,.bool okb,.int .i64 N5,.int .i64 N6,.slice va3 l3.length vc3,.int .i64 N7,.string S8,.slice va2 N9 vc2] l3 w4 wb) (fun e w'=>(Below w4.heap.size w4 w'∧wb.heap.size≤w'.heap.size∧Blk w' g 25 [.int .i64 N0,.int .i64 N1,.int .i64 N2,.int .i64 N3,.bool okb,.int .i64 N5,.int .i64 N6,.slice va3 l3.length vc3,.int .i64 N7,.string S8,.slice va2 N9 vc2]∧Blk w' wr.heap.size 70 [.int .i64 3,.int .i64 xn,.string xs,.slice (some ⟨b8,o8,none⟩) 3 xc]∧(∀ q,q<w7.heap.size→q≠g→w'.heap[q]? = wb.heap[q]?))∧(e 19=none→w'.ownsRow w7.heap.size 67 3 (.slice va3 l3.length vc3) l3.length (rcE.cells l3))) rgrD (by kernel_rfl) (by kernel_rfl) (by kernel_rfl) (by kernel_rfl) (by kernel_rfl) (by kernel_rfl) (by kernel_rfl) ⟨⟨HBb.out.drew,Nat.le_refl _,HMb.out,HXb.out,fun _ _ _=>rfl⟩,fun _=>own_under HOb.out ((Below.refl _ _).drew)⟩
             (rgr_steps g wr.heap.size w7.heap.size b8 o8 3 xn xs xc n0 n1 sd va3 vc3 [.int .i64 N0,.int .i64 N1,.int .i64 N2,.int .i64 N3,.bool okb,.int .i64 N5,.int .i64 N6,.slice va3 l3.length vc3,.int .i64 N7,.string S8,.slice va2 N9 vc2] l3 w4 wb hg4 (by omega) (by have:=HSb.out; omega) (by omega) (by have:=HSb.out; omega) (fun e=>by have:=(HOL.out _ e.symm).2; omega) rfl HN3.out (by omega) c1 c5 c10' (by kernel_rfl) (by kernel_rfl) (by kernel_rfl) (by kernel_rfl)) ?_
            intro oL hoL eL vs w9 hn hallL hCw9 hT KL hKL
            replace hn:vs.length=21:=hn
            obtain⟨v0,vs1,rfl,hn1⟩:=len_cons hn
            obtain⟨v1,vs2,rfl,hn2⟩:=len_cons hn1
            obtain⟨v2,vs3,rfl,hn3⟩:=len_cons hn2
            obtain⟨v3,vs4,rfl,hn4⟩:=len_cons hn3
            obtain⟨v4,vs5,rfl,hn5⟩:=len_cons hn4
            obtain⟨v5,vs6,rfl,hn6⟩:=len_cons hn5
            obtain⟨v6,vs7,rfl,hn7⟩:=len_cons hn6
            obtain⟨v7,vs8,rfl,hn8⟩:=len_cons hn7
            obtain⟨v8,vs9,rfl,hn9⟩:=len_cons hn8
            obtain⟨v9,vs10,rfl,hn10⟩:=len_cons hn9
            obtain⟨v10,vs11,rfl,hn11⟩:=len_cons hn10
            obtain⟨v11,vs12,rfl,hn12⟩:=len_cons hn11
            obtain⟨v12,vs13,rfl,hn13⟩:=len_cons hn12
            obtain⟨v13,vs14,rfl,hn14⟩:=len_cons hn13
            obtain⟨v14,vs15,rfl,hn15⟩:=len_cons hn14
            obtain⟨v15,vs16,rfl,hn16⟩:=len_cons hn15
            obtain⟨v16,vs17,rfl,hn17⟩:=len_cons hn16
            obtain⟨v17,vs18,rfl,hn18⟩:=len_cons hn17
            obtain⟨v18,vs19,rfl,hn19⟩:=len_cons hn18
            obtain⟨v19,vs20,rfl,hn20⟩:=len_cons hn19
            obtain⟨v20,vs21,rfl,hn21⟩:=len_cons hn20
            obtain rfl:=List.eq_nil_of_length_eq_zero hn21
            clear hn hn1 hn2 hn3 hn4 hn5 hn6 hn7 hn8 hn9 hn10 hn11 hn12 hn13 hn14 hn15 hn16 hn17 hn18 hn19 hn20 hn21
            obtain rfl:v0 = .pointer (some ⟨g,7,none⟩):=hT 0 v0 rfl (by kernel_rfl)
            obtain rfl:v1 = .slice va3 l3.length vc3:=hT 1 v1 rfl (by kernel_rfl)
            obtain rfl:v2 = .pointer (some ⟨wr.heap.size,3,none⟩):=hT 2 v2 rfl (by kernel_rfl)
            obtain rfl:v3 = .slice (some ⟨b8,o8,none⟩) 3 xc:=hT 3 v3 rfl (by kernel_rfl)
            obtain rfl:v4 = .pointer (some ⟨b8,o8,none⟩):=hT 4 v4 rfl (by kernel_rfl)
            obtain rfl:v5 = .pointer (some ⟨b8,o8+1,none⟩):=hT 5 v5 rfl (by kernel_rfl)
            obtain rfl:v6 = .int .i64 n0:=hT 6 v6 rfl (by kernel_rfl)
            obtain rfl:v7 = .pointer (some ⟨wr.heap.size,3,none⟩):=hT 7 v7 rfl (by kernel_rfl)
            obtain rfl:v8 = .slice (some ⟨b8,o8,none⟩) 3 xc:=hT 8 v8 rfl (by kernel_rfl)
            obtain rfl:v9 = .pointer (some ⟨b8,o8+4,none⟩):=hT 9 v9 rfl (by kernel_rfl)
            obtain rfl:v10 = .pointer (some ⟨b8,o8+5,none⟩):=hT 10 v10 rfl (by kernel_rfl)
            obtain rfl:v11 = .int .i64 n1:=hT 11 v11 rfl (by kernel_rfl)
            obtain rfl:v12 = .pointer (some ⟨wr.heap.size,3,none⟩):=hT 12 v12 rfl (by kernel_rfl)
            obtain rfl:v13 = .slice (some ⟨b8,o8,none⟩) 3 xc:=hT 13 v13 rfl (by kernel_rfl)
            obtain rfl:v14 = .pointer (some ⟨b8,o8+8,none⟩):=hT 14 v14 rfl (by kernel_rfl)
            obtain rfl:v15 = .pointer (some ⟨b8,o8+10,none⟩):=hT 15 v15 rfl (by kernel_rfl)
            obtain rfl:v16 = .string sd:=hT 16 v16 rfl (by kernel_rfl)
            obtain rfl:v17 = .agg #[.int .i64 n0,.int .i64 n1,.string sd]:=hT 17 v17 rfl (by kernel_rfl)
            have t19:=zA (hT 19 v19 rfl (by kernel_rfl))
            obtain rfl:v20 = .pointer (some ⟨g,7,none⟩):=hT 20 v20 rfl (by kernel_rfl)
            clear hT
            have hoL1:=opIs hoL (p:=.store 22 (.tmp 204) (.tmp 203)) (by kernel_rfl)
            have hgL:=guardIs hoL (p:=none) (by kernel_rfl)
            have hdL:oL.dst=none:=by have:=(show ((regOf Tryz.f15 25)[21]?).map (·.dst)=some (none) by kernel_rfl); rw [hoL] at this; simpa using this
            rw [if_pos (wanted_free hgL)]
            rw [hdL] at hKL
            simp only [puts,Act.put,List.setIfInBounds_toArray,List.set_cons_succ,List.set_cons_zero] at hKL ⊢
            obtain⟨hC9,-⟩:=hCw9
            obtain⟨a3,c3,e11,hown⟩:=t19.out
            subst e11
            obtain⟨hB9,hS9,hM9,-,hQ9⟩:=hC9
            have e3:=hM9.cell (j:=7) rfl
            have k3:=hM9.free 7
            unfold Oper.wp
            rw [show (execOp _ oL).run Tryz.prog w9 = .ok .skip (w9.setCell ⟨g,7,none⟩ (.slice a3 (l3.length+1) c3)) by unfold execOp; simp only [hoL1]; simp [go_sem,e3,k3]]
            show KL (Act.put _ oL.dst undef) _
            rw [hdL]
            refine hKL undef _ ?_
            have hg:=grown_setCell w9 g 7 (.slice a3 (l3.length+1) c3)
            obtain⟨l4,hl4⟩:∃ l4,l4=l3++[⟨n0,n1,sd⟩]:=⟨_,rfl⟩
            have hll:l3.length+1=l4.length:=by rw [hl4]; simp
            have HM10:=zA (show Blk (w9.setCell ⟨g,7,none⟩ (.slice a3 (l3.length+1) c3)) g 25 [.int .i64 N0,.int .i64 N1,.int .i64 N2,.int .i64 N3,.bool okb,.int .i64 N5,.int .i64 N6,.slice a3 (l3.length+1) c3,.int .i64 N7,.string S8,.slice va2 N9 vc2] from hM9.set 7 _)
            have HO10:=zA (own_kept hown hg (show g<w7.heap.size by omega))
            have HB10:=zA (hB9.grown hg hB9.size (fun q e=>by have:=Option.some.inj e; omega))
            have hsb:=HSb.out
            have HS10:=zA (show w7.heap.size≤(w9.setCell ⟨g,7,none⟩ (.slice a3 (l3.length+1) c3)).heap.size from Nat.le_trans (show w7.heap.size≤wb.heap.size by omega) (Nat.le_trans hS9 hg.size))
            have HQ10:=zA (fun q (h1:q<w7.heap.size) (h2:q≠g)=>(hg.block q (by omega) (fun e=>h2 (Option.some.inj e))).trans ((hQ9 q h1 h2).trans (HQb.out q h1 h2)))
            rw [← hl4] at HO10
            rw [hll] at HM10 HO10 HB10 HS10 HQ10 ⊢
            have HL4:=zA hl4
            clear e3 k3 hown t19 hKL hoL hoL1 hgL hdL hallL hg hB9 hS9 hM9 hQ9 hll hl4 HMb HOb HBb HB2b HXb HSb HQb HOL hsr c1 c5 c10' HRb HNb HBWb
            generalize w9.setCell ⟨g,7,none⟩ (.slice a3 l4.length c3)=w10 at *
            go_wp2_with fail
            have hkn9:=HKN.out
            go_roundg (E10.l.length - (k+1))
            case rel=>exact⟨k+1,a3,c3,l4,by have:=HKN.out; omega,rfl,by go_num,zA (by rw [HL4.out,← HLT.out,HRC2.out]),HRI3,HM10,HO10,HB10,HS10,HQ10⟩
            case measure=>omega
           ·have HZ9:=zA (HFS.out (fun h=>hk2 (HFLD.out.1 h).2.2))
            have x3:=HXb.out.cell (j:=3) rfl
            have y8:=cell_keep HB2b.out m8
            have hkb:(G2.k != 2)=true:=by simpa using hk2
            generalize G2.k=g2 at *
            clear hs0 hs1 hk2 HRI2 HFS HFLD m4 m6 m7 m8 HMb HOb HXb
            have q0:=HRb.out.cell (j:=0) rfl
            have f0:=HRb.out.free 0
            have q1:=HRb.out.cell (j:=1) rfl
            have f1:=HRb.out.free 1
            have q2:=HRb.out.cell (j:=2) rfl
            have f2:=HRb.out.free 2
            have q3:=HRb.out.cell (j:=3) rfl
            have f3:=HRb.out.free 3
            have q4:=HRb.out.cell (j:=4) rfl
            have f4:=HRb.out.free 4
            have q5:=HRb.out.cell (j:=5) rfl
            have f5:=HRb.out.free 5
            have q6:=HRb.out.cell (j:=6) rfl
            have f6:=HRb.out.free 6
            have q7:=HRb.out.cell (j:=7) rfl
            have f7:=HRb.out.free 7
            have q8:=HRb.out.cell (j:=8) rfl
            have f8:=HRb.out.free 8
            have q9:=HRb.out.cell (j:=9) rfl
            have f9:=HRb.out.free 9
            have q10:=HRb.out.cell (j:=10) rfl
            have f10:=HRb.out.free 10
            have z0:=HNb.out.cell (j:=0) rfl
            have z1:=HNb.out.cell (j:=1) rfl
            have z2:=HNb.out.cell (j:=2) rfl
            have z3:=HNb.out.cell (j:=3) rfl
            have z4:=HNb.out.cell (j:=4) rfl
            have z5:=HNb.out.cell (j:=5) rfl
            have z6:=HNb.out.cell (j:=6) rfl
            have z7:=HNb.out.cell (j:=7) rfl
            have z8:=HNb.out.cell (j:=8) rfl
            have z9:=HNb.out.cell (j:=9) rfl
            have z10:=HNb.out.cell (j:=10) rfl
            go_wp2_with fail
            (try simp only [Exit.inBlock,Exit.then])
            have hz9:=blk_eleven HRb.out (.int .i64 0) (.int .i64 0) (.int .i64 0) (.int .i64 0) (.bool false) (.int .i64 0) (.int .i64 0) (.slice none 0 0) (.int .i64 0) (.string ⟨#[]⟩) (.slice none 0 0)
            have hg9:=grown_eleven (wb) w.heap.size (.int .i64 0) (.int .i64 0) (.int .i64 0) (.int .i64 0) (.bool false) (.int .i64 0) (.int .i64 0) (.slice none 0 0) (.int .i64 0) (.string ⟨#[]⟩) (.slice none 0 0)
            have HB9:=zA (HBWb.out.grown hg9 HBWb.out.size (fun q e=>by have:=Option.some.inj e; omega))
            refine bodyPost_ret (v:=.tuple #[.agg #[.int .i64 0,.int .i64 0,.int .i64 0,.int .i64 0,.bool false,.int .i64 0,.int .i64 0,.slice none 0 0,.int .i64 0,.string ⟨#[]⟩,.slice none 0 0],.int .i64 1]) ?_ rfl ?_
            ·exact results_row_tmp (p:=2) (u:=3) rfl _ _ w.heap.size 25 _ (0,0) _ rfl hz9 Tryz.underlying25 rfl (by kernel_rfl)
            ·rw [HZ9.out]; exact retM_zero _ HB9.out
          ·rw [decide_eq_false hs1]
           have HZ9:=zA (HFS.out (fun h=>hs1 (HFLD.out.1 h).2.1))
           clear hs0 hs1 HRI2 HFS HFLD m4 m6 m7 m8 HMb HOb HXb
           have q0:=HRb.out.cell (j:=0) rfl
           have f0:=HRb.out.free 0
           have q1:=HRb.out.cell (j:=1) rfl
           have f1:=HRb.out.free 1
           have q2:=HRb.out.cell (j:=2) rfl
           have f2:=HRb.out.free 2
           have q3:=HRb.out.cell (j:=3) rfl
           have f3:=HRb.out.free 3
           have q4:=HRb.out.cell (j:=4) rfl
           have f4:=HRb.out.free 4
           have q5:=HRb.out.cell (j:=5) rfl
           have f5:=HRb.out.free 5
           have q6:=HRb.out.cell (j:=6) rfl
           have f6:=HRb.out.free 6
           have q7:=HRb.out.cell (j:=7) rfl
           have f7:=HRb.out.free 7
           have q8:=HRb.out.cell (j:=8) rfl
           have f8:=HRb.out.free 8
           have q9:=HRb.out.cell (j:=9) rfl
           have f9:=HRb.out.free 9
           have q10:=HRb.out.cell (j:=10) rfl
           have f10:=HRb.out.free 10
           have z0:=HNb.out.cell (j:=0) rfl
           have z1:=HNb.out.cell (j:=1) rfl
           have z2:=HNb.out.cell (j:=2) rfl
           have z3:=HNb.out.cell (j:=3) rfl
           have z4:=HNb.out.cell (j:=4) rfl
           have z5:=HNb.out.cell (j:=5) rfl
           have z6:=HNb.out.cell (j:=6) rfl
           have z7:=HNb.out.cell (j:=7) rfl
           have z8:=HNb.out.cell (j:=8) rfl
           have z9:=HNb.out.cell (j:=9) rfl
           have z10:=HNb.out.cell (j:=10) rfl
           go_wp2_with fail
           (try simp only [Exit.inBlock,Exit.then])
           have hz9:=blk_eleven HRb.out (.int .i64 0) (.int .i64 0) (.int .i64 0) (.int .i64 0) (.bool false) (.int .i64 0) (.int .i64 0) (.slice none 0 0) (.int .i64 0) (.string ⟨#[]⟩) (.slice none 0 0)
           have hg9:=grown_eleven (wb) w.heap.size (.int .i64 0) (.int .i64 0) (.int .i64 0) (.int .i64 0) (.bool false) (.int .i64 0) (.int .i64 0) (.slice none 0 0) (.int .i64 0) (.string ⟨#[]⟩) (.slice none 0 0)
           have HB9:=zA (HBWb.out.grown hg9 HBWb.out.size (fun q e=>by have:=Option.some.inj e; omega))
           refine bodyPost_ret (v:=.tuple #[.agg #[.int .i64 0,.int .i64 0,.int .i64 0,.int .i64 0,.bool false,.int .i64 0,.int .i64 0,.slice none 0 0,.int .i64 0,.string ⟨#[]⟩,.slice none 0 0],.int .i64 1]) ?_ rfl ?_
           ·exact results_row_tmp (p:=2) (u:=3) rfl _ _ w.heap.size 25 _ (0,0) _ rfl hz9 Tryz.underlying25 rfl (by kernel_rfl)
           ·rw [HZ9.out]; exact retM_zero _ HB9.out
         ·rw [decide_eq_false hs0]
          have HZ9:=zA (HFS.out (fun h=>hs0 (HFLD.out.1 h).1))
          clear hs0 HRI2 HFS HFLD m4 m6 m7 m8 HMa HOa HXa
          have q0:=HRa.out.cell (j:=0) rfl
          have f0:=HRa.out.free 0
          have q1:=HRa.out.cell (j:=1) rfl
          have f1:=HRa.out.free 1
          have q2:=HRa.out.cell (j:=2) rfl
          have f2:=HRa.out.free 2
          have q3:=HRa.out.cell (j:=3) rfl
          have f3:=HRa.out.free 3
          have q4:=HRa.out.cell (j:=4) rfl
          have f4:=HRa.out.free 4
          have q5:=HRa.out.cell (j:=5) rfl
          have f5:=HRa.out.free 5
          have q6:=HRa.out.cell (j:=6) rfl
          have f6:=HRa.out.free 6
          have q7:=HRa.out.cell (j:=7) rfl
          have f7:=HRa.out.free 7
          have q8:=HRa.out.cell (j:=8) rfl
          have f8:=HRa.out.free 8
          have q9:=HRa.out.cell (j:=9) rfl
          have f9:=HRa.out.free 9
          have q10:=HRa.out.cell (j:=10) rfl
          have f10:=HRa.out.free 10
          have z0:=HNa.out.cell (j:=0) rfl
          have z1:=HNa.out.cell (j:=1) rfl
          have z2:=HNa.out.cell (j:=2) rfl
          have z3:=HNa.out.cell (j:=3) rfl
          have z4:=HNa.out.cell (j:=4) rfl
          have z5:=HNa.out.cell (j:=5) rfl
          have z6:=HNa.out.cell (j:=6) rfl
          have z7:=HNa.out.cell (j:=7) rfl
          have z8:=HNa.out.cell (j:=8) rfl
          have z9:=HNa.out.cell (j:=9) rfl
          have z10:=HNa.out.cell (j:=10) rfl
          go_wp2_with fail
          (try simp only [Exit.inBlock,Exit.then])
          have hz9:=blk_eleven HRa.out (.int .i64 0) (.int .i64 0) (.int .i64 0) (.int .i64 0) (.bool false) (.int .i64 0) (.int .i64 0) (.slice none 0 0) (.int .i64 0) (.string ⟨#[]⟩) (.slice none 0 0)
          have hg9:=grown_eleven (wa) w.heap.size (.int .i64 0) (.int .i64 0) (.int .i64 0) (.int .i64 0) (.bool false) (.int .i64 0) (.int .i64 0) (.slice none 0 0) (.int .i64 0) (.string ⟨#[]⟩) (.slice none 0 0)
          have HB9:=zA (HBWa.out.grown hg9 HBWa.out.size (fun q e=>by have:=Option.some.inj e; omega))
          refine bodyPost_ret (v:=.tuple #[.agg #[.int .i64 0,.int .i64 0,.int .i64 0,.int .i64 0,.bool false,.int .i64 0,.int .i64 0,.slice none 0 0,.int .i64 0,.string ⟨#[]⟩,.slice none 0 0],.int .i64 1]) ?_ rfl ?_
          ·exact results_row_tmp (p:=2) (u:=3) rfl _ _ w.heap.size 25 _ (0,0) _ rfl hz9 Tryz.underlying25 rfl (by kernel_rfl)
          ·rw [HZ9.out]; exact retM_zero _ HB9.out
        ·have HZ9:=zA (HFS.out (fun h=>hl3 h.2.1))
         have hxl:((xl.length:Int) != 3)=true:=by simp; omega
         clear hl3 HRI2 HFS HMq HOq
         have q0:=HRq.out.cell (j:=0) rfl
         have f0:=HRq.out.free 0
         have q1:=HRq.out.cell (j:=1) rfl
         have f1:=HRq.out.free 1
         have q2:=HRq.out.cell (j:=2) rfl
         have f2:=HRq.out.free 2
         have q3:=HRq.out.cell (j:=3) rfl
         have f3:=HRq.out.free 3
         have q4:=HRq.out.cell (j:=4) rfl
         have f4:=HRq.out.free 4
         have q5:=HRq.out.cell (j:=5) rfl
         have f5:=HRq.out.free 5
         have q6:=HRq.out.cell (j:=6) rfl
         have f6:=HRq.out.free 6
         have q7:=HRq.out.cell (j:=7) rfl
         have f7:=HRq.out.free 7
         have q8:=HRq.out.cell (j:=8) rfl
         have f8:=HRq.out.free 8
         have q9:=HRq.out.cell (j:=9) rfl
         have f9:=HRq.out.free 9
         have q10:=HRq.out.cell (j:=10) rfl
         have f10:=HRq.out.free 10
         have z0:=HNq.out.cell (j:=0) rfl
         have z1:=HNq.out.cell (j:=1) rfl
         have z2:=HNq.out.cell (j:=2) rfl
         have z3:=HNq.out.cell (j:=3) rfl
         have z4:=HNq.out.cell (j:=4) rfl
         have z5:=HNq.out.cell (j:=5) rfl
         have z6:=HNq.out.cell (j:=6) rfl
         have z7:=HNq.out.cell (j:=7) rfl
         have z8:=HNq.out.cell (j:=8) rfl
         have z9:=HNq.out.cell (j:=9) rfl
         have z10:=HNq.out.cell (j:=10) rfl
         go_wp2_with fail
         (try simp only [Exit.inBlock,Exit.then])
         have hz9:=blk_eleven HRq.out (.int .i64 0) (.int .i64 0) (.int .i64 0) (.int .i64 0) (.bool false) (.int .i64 0) (.int .i64 0) (.slice none 0 0) (.int .i64 0) (.string ⟨#[]⟩) (.slice none 0 0)
         have hg9:=grown_eleven (wq) w.heap.size (.int .i64 0) (.int .i64 0) (.int .i64 0) (.int .i64 0) (.bool false) (.int .i64 0) (.int .i64 0) (.slice none 0 0) (.int .i64 0) (.string ⟨#[]⟩) (.slice none 0 0)
         have HB9:=zA (HBW.out.grown hg9 HBW.out.size (fun q e=>by have:=Option.some.inj e; omega))
         refine bodyPost_ret (v:=.tuple #[.agg #[.int .i64 0,.int .i64 0,.int .i64 0,.int .i64 0,.bool false,.int .i64 0,.int .i64 0,.slice none 0 0,.int .i64 0,.string ⟨#[]⟩,.slice none 0 0],.int .i64 1]) ?_ rfl ?_
         ·exact results_row_tmp (p:=2) (u:=3) rfl _ _ w.heap.size 25 _ (0,0) _ rfl hz9 Tryz.underlying25 rfl (by kernel_rfl)
         ·rw [HZ9.out]; exact retM_zero _ HB9.out
       ·have HZ9:=zA (HFS.out (fun h=>hk3 h.1))
        have hxk:(xk != 3)=true:=by simpa using hk3
        clear hk3 HRI2 HFS HMq HOq
        have q0:=HRq.out.cell (j:=0) rfl
        have f0:=HRq.out.free 0
        have q1:=HRq.out.cell (j:=1) rfl
        have f1:=HRq.out.free 1
        have q2:=HRq.out.cell (j:=2) rfl
        have f2:=HRq.out.free 2
        have q3:=HRq.out.cell (j:=3) rfl
        have f3:=HRq.out.free 3
        have q4:=HRq.out.cell (j:=4) rfl
        have f4:=HRq.out.free 4
        have q5:=HRq.out.cell (j:=5) rfl
        have f5:=HRq.out.free 5
        have q6:=HRq.out.cell (j:=6) rfl
        have f6:=HRq.out.free 6
        have q7:=HRq.out.cell (j:=7) rfl
        have f7:=HRq.out.free 7
        have q8:=HRq.out.cell (j:=8) rfl
        have f8:=HRq.out.free 8
        have q9:=HRq.out.cell (j:=9) rfl
        have f9:=HRq.out.free 9
        have q10:=HRq.out.cell (j:=10) rfl
        have f10:=HRq.out.free 10
        have z0:=HNq.out.cell (j:=0) rfl
        have z1:=HNq.out.cell (j:=1) rfl
        have z2:=HNq.out.cell (j:=2) rfl
        have z3:=HNq.out.cell (j:=3) rfl
        have z4:=HNq.out.cell (j:=4) rfl
        have z5:=HNq.out.cell (j:=5) rfl
        have z6:=HNq.out.cell (j:=6) rfl
        have z7:=HNq.out.cell (j:=7) rfl
        have z8:=HNq.out.cell (j:=8) rfl
        have z9:=HNq.out.cell (j:=9) rfl
        have z10:=HNq.out.cell (j:=10) rfl
        go_wp2_with fail
        (try simp only [Exit.inBlock,Exit.then])
        have hz9:=blk_eleven HRq.out (.int .i64 0) (.int .i64 0) (.int .i64 0) (.int .i64 0) (.bool false) (.int .i64 0) (.int .i64 0) (.slice none 0 0) (.int .i64 0) (.string ⟨#[]⟩) (.slice none 0 0)
        have hg9:=grown_eleven (wq) w.heap.size (.int .i64 0) (.int .i64 0) (.int .i64 0) (.int .i64 0) (.bool false) (.int .i64 0) (.int .i64 0) (.slice none 0 0) (.int .i64 0) (.string ⟨#[]⟩) (.slice none 0 0)
        have HB9:=zA (HBW.out.grown hg9 HBW.out.size (fun q e=>by have:=Option.some.inj e; omega))
        refine bodyPost_ret (v:=.tuple #[.agg #[.int .i64 0,.int .i64 0,.int .i64 0,.int .i64 0,.bool false,.int .i64 0,.int .i64 0,.slice none 0 0,.int .i64 0,.string ⟨#[]⟩,.slice none 0 0],.int .i64 1]) ?_ rfl ?_
        ·exact results_row_tmp (p:=2) (u:=3) rfl _ _ w.heap.size 25 _ (0,0) _ rfl hz9 Tryz.underlying25 rfl (by kernel_rfl)
        ·rw [HZ9.out]; exact retM_zero _ HB9.out
      ·obtain rfl:k=E10.l.length:=by omega
       have HL:=zA (show l3=E10.l.map recRead from by rw [HL3.out,List.take_length])
       have hri:=HRI.out
       rw [List.take_length] at hri
       have HRI9:=zA hri
       have HMR:Hid (msRead (V.mk 3 vn vt vl)=(⟨N0,N1,N2,N3,okb,N5,N6,l3,N7,S8,VL⟩:Ms)):=zA (by
        have e4:okb=decide (N4=1):=by rw [HOK.out]; by_cases h:N4=1 <;> simp [h]
        rw [HL.out,HVL.out,e4,hN0.out,hN1.out,hN2.out,hN3.out,hN4.out,hN5.out,hN6.out,hN7.out,HS8.out,hE8.out,hE9.out,hE10.out]; rfl)
       have HNUM:Hid (msOk (V.mk 3 vn vt vl)↔(N4≤1∧mayM (⟨N0,N1,N2,N3,okb,N5,N6,l3,N7,S8,VL⟩:Ms)=true)):=zA (by
        have h1:headV (V.mk 3 vn vt vl):=⟨rfl,HLEN.out,by have:=HK3.out.1; rw [hE8.out] at this; exact this,by have:=HK3.out.2.1; rw [hE9.out] at this; exact this,by have:=HK3.out.2.2; rw [hE10.out] at this; exact this⟩
        have h3:∀ y∈(fld (V.mk 3 vn vt vl) 9).l,smallN y:=by intro y hy; exact HVS.out y (by rw [hE9.out]; exact hy)
        have h4:∀ y∈(fld (V.mk 3 vn vt vl) 10).l,recIs y:=by intro y hy; exact HRI9.out y (by rw [hE10.out]; exact hy)
        have h5:(fld (V.mk 3 vn vt vl) 4).n=N4:=hN4.out.symm
        unfold msOk
        rw [h5,HMR.out]
        exact⟨fun h=>⟨h.2.2.2.2.1,h.2.2.2.2.2⟩,fun h=>⟨h1,HFIRST.out,h3,h4,h.1,h.2⟩⟩)
       have HN4:Hid (0≤N4):=zA (by have h:=HFIRST.out.2.2.2.2.1; unfold smallN at h; rw [hN4.out]; exact h.2.1)
       have HMSA:Hid (MsAt wr (⟨N0,N1,N2,N3,okb,N5,N6,l3,N7,S8,VL⟩:Ms) va3 l3.length vc3 va2 N9 vc2):=zA (by
        have hp:=getL_ok s HBA.out
        rw [HHV.out] at hp
        have hpl:=hp.2.2.2.2
        have hmem:∀ j,j<11→(putL (vl.getD j zeroV)).length≤131072:=fun j hj=>Nat.le_trans (mem_len (fld_mem (v:=(V.mk 3 vn vt vl)) (i:=j) (by show j<vl.length; rw [HLEN.out]; exact hj))) (Nat.le_trans (all_len (V.mk 3 vn vt vl) rfl) hpl)
        obtain⟨a,c,he,hn,hsl,-,-,-⟩:=Enc.own_sl (E:=rcE) hO.out
        cases he
        have hfst:=HFIRST.out
        unfold firstV smallN at hfst
        have hb:∀ n:Int,0≤n∧n≤1073741824→i64R n:=fun n h=>by unfold i64R; omega
        refine⟨hsl,?_,?_,?_,?_,?_,?_,?_⟩
        ·exact SlAt.ofOwn (own_move HO2.out (fun g hg=>hQ.out g (HO2.out.lt g hg).2 (by have:=(HO2.out.lt g hg).1; omega)))
        ·show l3.length≤_; rw [HL.out,List.length_map]; have:=HLEN10.out; omega
        ·show N9≤_; rw [HN9.out]; have:=HLEN9.out; omega
        ·intro r hr
         rw [HL.out] at hr
         obtain⟨y,hy,rfl⟩:=List.mem_map.1 hr
         have hn:=HRI9.out y hy
         refine⟨?_,hb _ hn.2.2.1.2,hb _ hn.2.2.2.1.2⟩
         have h1:=txt_len (fld y 2) hn.2.2.2.2
         have h2:=mem_len (fld_mem (v:=y) (i:=2) (by rw [hn.2.1]; decide))
         have h3:=all_len y hn.1
         have h4:=mem_len hy
         have h5:=all_len E10 HK3.out.2.2
         have h6:=hmem 10 (by decide)
         rw [← hE10.out] at h6
         show (fld y 2).s.size≤maxLen
         unfold maxLen
         omega
        ·have h1:=txt_len E8 HK3.out.1
         have h6:=hmem 8 (by decide)
         rw [← hE8.out] at h6
         show S8.size≤maxLen
         rw [HS8.out]
         unfold maxLen
         omega
        ·rw [hN0.out,hN1.out,hN2.out,hN3.out,hN5.out,hN6.out,hN7.out]
         exact⟨hb _ hfst.1.2,hb _ hfst.2.1.2,hb _ hfst.2.2.1.2,hb _ hfst.2.2.2.1.2,hb _ hfst.2.2.2.2.2.1.2,hb _ hfst.2.2.2.2.2.2.1.2,hb _ hfst.2.2.2.2.2.2.2.2⟩
        ·intro y hy
         rw [HVL.out] at hy
         obtain⟨z,hz,rfl⟩:=List.mem_map.1 hy
         exact hb _ (HVS.out z hz).2)
       have HVA3:Hid (∀ y,va3=some y→w7.heap.size≤y.block):=zA (by
        obtain⟨a,c,he,hn,-,hsl,-,-⟩:=Enc.own_sl (E:=rcE) hO.out
        cases he
        exact hsl)
       have HVA2:Hid (∀ y,va2=some y→w5.heap.size≤y.block):=zA (by
        obtain⟨a,n,c,he,-,hsl,-⟩:=own_slice HO2.out
        cases he
        exact hsl)
       have hmay:=zA (show Calls Tryz.prog 37 #[.agg #[.int .i64 N0,.int .i64 N1,.int .i64 N2,.int .i64 N3,.bool okb,.int .i64 N5,.int .i64 N6,.slice va3 l3.length vc3,.int .i64 N7,.string S8,.slice va2 N9 vc2]] wr _ from rMay_any (⟨N0,N1,N2,N3,okb,N5,N6,l3,N7,S8,VL⟩:Ms) va3 l3.length vc3 va2 N9 vc2 wr HMSA.out (mayM (⟨N0,N1,N2,N3,okb,N5,N6,l3,N7,S8,VL⟩:Ms)) (zA rfl))
       have HB2r:=zA (HB24.out.trans (Below.lower hB.out HB24.out.size))
       have HRr:=zA (show Blk wr w.heap.size _ _ from (HB2r.out.block _ (lt_of_block HR2.out)).trans HR2.out)
       have HNr:=zA (show Blk wr (w.heap.size+1) _ _ from (HB2r.out.block _ (lt_of_block HN2.out)).trans HN2.out)
       have HBW:=zA (HB2.out.trans (Below.lower HB2r.out HB2.out.size))
       have HV9:=zA (show Four wr w1.heap.size _ _ _ _ _ from (HB2r.out.block _ (by have:=HS2.out; omega)).trans HV2.out)
       have v3:=HV9.out.c3
       obtain⟨xa4',xc4',-,-,g4,-,-⟩:=HEL.out 4 (by rw [HLEN.out]; decide)
       have n4:=cell_keep HB2r.out (cell_keep HK2.out g4)
       rw [← hN4.out] at n4
       simp only [Nat.reduceMul,Nat.add_assoc,Nat.reduceAdd] at n4
       have hltw:w.heap.size<w2.heap.size:=by have:=lt_of_block HR2.out; exact this
       clear g4 hri hk hkn
       by_cases hc:N4≤1
       ·have HC:=zA hc
        have hn40:=HN4.out
        have x0:=hM.out.cell (j:=0) rfl
        have x1:=hM.out.cell (j:=1) rfl
        have x2:=hM.out.cell (j:=2) rfl
        have x3:=hM.out.cell (j:=3) rfl
        have x4:=hM.out.cell (j:=4) rfl
        have x5:=hM.out.cell (j:=5) rfl
        have x6:=hM.out.cell (j:=6) rfl
        have x7:=hM.out.cell (j:=7) rfl
        have x8:=hM.out.cell (j:=8) rfl
        have x9:=hM.out.cell (j:=9) rfl
        have x10:=hM.out.cell (j:=10) rfl
        go_wp2_with fail
        refine hmay.out.mono ?_
        rintro e wz ⟨rfl,hbz⟩
        dsimp only
        have HBz:=zA (HBW.out.trans (Below.lower hbz HBW.out.size))
        have HRz:=zA (HRr.out.keep hbz)
        have HNz:=zA (HNr.out.keep hbz)
        have HMz:=zA (hM.out.keep hbz)
        have HSz:=zA (HMSA.out.keep hbz)
        clear x0 x1 x2 x3 x4 x5 x6 x7 x8 x9 x10 v3 n4 hbz hmay
        cases hmm:mayM (⟨N0,N1,N2,N3,okb,N5,N6,l3,N7,S8,VL⟩:Ms) with
        | false =>
          have HZ9:Hid (x=(Ms.zero,1)):=zA (by rw [HX.out]; unfold readM; rw [if_neg (fun h=>by have:=(HNUM.out.1 h).2; rw [hmm] at this; cases this)])
          clear HX hx HNUM hmm HMR
          have q0:=HRz.out.cell (j:=0) rfl
          have f0:=HRz.out.free 0
          have q1:=HRz.out.cell (j:=1) rfl
          have f1:=HRz.out.free 1
          have q2:=HRz.out.cell (j:=2) rfl
          have f2:=HRz.out.free 2
          have q3:=HRz.out.cell (j:=3) rfl
          have f3:=HRz.out.free 3
          have q4:=HRz.out.cell (j:=4) rfl
          have f4:=HRz.out.free 4
          have q5:=HRz.out.cell (j:=5) rfl
          have f5:=HRz.out.free 5
          have q6:=HRz.out.cell (j:=6) rfl
          have f6:=HRz.out.free 6
          have q7:=HRz.out.cell (j:=7) rfl
          have f7:=HRz.out.free 7
          have q8:=HRz.out.cell (j:=8) rfl
          have f8:=HRz.out.free 8
          have q9:=HRz.out.cell (j:=9) rfl
          have f9:=HRz.out.free 9
          have q10:=HRz.out.cell (j:=10) rfl
          have f10:=HRz.out.free 10
          have z0:=HNz.out.cell (j:=0) rfl
          have z1:=HNz.out.cell (j:=1) rfl
          have z2:=HNz.out.cell (j:=2) rfl
          have z3:=HNz.out.cell (j:=3) rfl
          have z4:=HNz.out.cell (j:=4) rfl
          have z5:=HNz.out.cell (j:=5) rfl
          have z6:=HNz.out.cell (j:=6) rfl
          have z7:=HNz.out.cell (j:=7) rfl
          have z8:=HNz.out.cell (j:=8) rfl
          have z9:=HNz.out.cell (j:=9) rfl
          have z10:=HNz.out.cell (j:=10) rfl
          go_wp2_with fail
          (try simp only [Exit.inBlock,Exit.then])
          have hz9:=blk_eleven HRz.out (.int .i64 0) (.int .i64 0) (.int .i64 0) (.int .i64 0) (.bool false) (.int .i64 0) (.int .i64 0) (.slice none 0 0) (.int .i64 0) (.string ⟨#[]⟩) (.slice none 0 0)
          have hg9:=grown_eleven (wz) w.heap.size (.int .i64 0) (.int .i64 0) (.int .i64 0) (.int .i64 0) (.bool false) (.int .i64 0) (.int .i64 0) (.slice none 0 0) (.int .i64 0) (.string ⟨#[]⟩) (.slice none 0 0)
          have HB9:=zA (HBz.out.grown hg9 HBz.out.size (fun q e=>by have:=Option.some.inj e; omega))
          refine bodyPost_ret (v:=.tuple #[.agg #[.int .i64 0,.int .i64 0,.int .i64 0,.int .i64 0,.bool false,.int .i64 0,.int .i64 0,.slice none 0 0,.int .i64 0,.string ⟨#[]⟩,.slice none 0 0],.int .i64 1]) ?_ rfl ?_
          ·exact results_row_tmp (p:=2) (u:=3) rfl _ _ w.heap.size 25 _ (0,0) _ rfl hz9 Tryz.underlying25 rfl (by kernel_rfl)
          ·rw [HZ9.out]; exact retM_zero _ HB9.out
        | true =>
          have HZ9:Hid (x=((⟨N0,N1,N2,N3,okb,N5,N6,l3,N7,S8,VL⟩:Ms),0)):=zA (by rw [HX.out]; unfold readM; rw [if_pos (HNUM.out.2 ⟨HC.out,hmm⟩),HMR.out])
          clear HX hx HNUM hmm HMR
          have x0:=HMz.out.cell (j:=0) rfl
          have x1:=HMz.out.cell (j:=1) rfl
          have x2:=HMz.out.cell (j:=2) rfl
          have x3:=HMz.out.cell (j:=3) rfl
          have x4:=HMz.out.cell (j:=4) rfl
          have x5:=HMz.out.cell (j:=5) rfl
          have x6:=HMz.out.cell (j:=6) rfl
          have x7:=HMz.out.cell (j:=7) rfl
          have x8:=HMz.out.cell (j:=8) rfl
          have x9:=HMz.out.cell (j:=9) rfl
          have x10:=HMz.out.cell (j:=10) rfl
          have q0:=HRz.out.cell (j:=0) rfl
          have f0:=HRz.out.free 0
          have q1:=HRz.out.cell (j:=1) rfl
          have f1:=HRz.out.free 1
          have q2:=HRz.out.cell (j:=2) rfl
          have f2:=HRz.out.free 2
          have q3:=HRz.out.cell (j:=3) rfl
          have f3:=HRz.out.free 3
          have q4:=HRz.out.cell (j:=4) rfl
          have f4:=HRz.out.free 4
          have q5:=HRz.out.cell (j:=5) rfl
          have f5:=HRz.out.free 5
          have q6:=HRz.out.cell (j:=6) rfl
          have f6:=HRz.out.free 6
          have q7:=HRz.out.cell (j:=7) rfl
          have f7:=HRz.out.free 7
          have q8:=HRz.out.cell (j:=8) rfl
          have f8:=HRz.out.free 8
          have q9:=HRz.out.cell (j:=9) rfl
          have f9:=HRz.out.free 9
          have q10:=HRz.out.cell (j:=10) rfl
          have f10:=HRz.out.free 10
          go_wp2_with fail
          clear x0 x1 x2 x3 x4 x5 x6 x7 x8 x9 x10
          (try simp only [Exit.inBlock,Exit.then])
          have hz9:=blk_eleven HRz.out (.int .i64 N0) (.int .i64 N1) (.int .i64 N2) (.int .i64 N3) (.bool okb) (.int .i64 N5) (.int .i64 N6) (.slice va3 l3.length vc3) (.int .i64 N7) (.string S8) (.slice va2 N9 vc2)
          have hg9:=grown_eleven (wz) w.heap.size (.int .i64 N0) (.int .i64 N1) (.int .i64 N2) (.int .i64 N3) (.bool okb) (.int .i64 N5) (.int .i64 N6) (.slice va3 l3.length vc3) (.int .i64 N7) (.string S8) (.slice va2 N9 vc2)
          have HB9:=zA (HBz.out.grown hg9 HBz.out.size (fun q e=>by have:=Option.some.inj e; omega))
          refine bodyPost_ret (v:=.tuple #[.agg #[.int .i64 N0,.int .i64 N1,.int .i64 N2,.int .i64 N3,.bool okb,.int .i64 N5,.int .i64 N6,.slice va3 l3.length vc3,.int .i64 N7,.string S8,.slice va2 N9 vc2],.int .i64 0]) ?_ rfl ?_
          ·exact results_row_tmp (p:=2) (u:=3) rfl _ _ w.heap.size 25 _ (0,0) _ rfl hz9 Tryz.underlying25 rfl (by kernel_rfl)
          ·rw [HZ9.out]; exact⟨va3,l3.length,vc3,va2,N9,vc2,rfl,msAt_kept HSz.out hg9 (fun y e he=>by have:=HVA3.out y e; have:=Option.some.inj he; omega) (fun y e he=>by have:=HVA2.out y e; have:=Option.some.inj he; omega),HB9.out,fun y e=>(by have:=HVA3.out y e; omega),fun y e=>(by have:=HVA2.out y e; omega)⟩
       ·have HZ9:Hid (x=(Ms.zero,1)):=zA (by rw [HX.out]; unfold readM; rw [if_neg (fun h=>hc (HNUM.out.1 h).1)])
        have hc2:1<N4:=by omega
        clear HX hx HNUM HMR hmay HMSA
        have q0:=HRr.out.cell (j:=0) rfl
        have f0:=HRr.out.free 0
        have q1:=HRr.out.cell (j:=1) rfl
        have f1:=HRr.out.free 1
        have q2:=HRr.out.cell (j:=2) rfl
        have f2:=HRr.out.free 2
        have q3:=HRr.out.cell (j:=3) rfl
        have f3:=HRr.out.free 3
        have q4:=HRr.out.cell (j:=4) rfl
        have f4:=HRr.out.free 4
        have q5:=HRr.out.cell (j:=5) rfl
        have f5:=HRr.out.free 5
        have q6:=HRr.out.cell (j:=6) rfl
        have f6:=HRr.out.free 6
        have q7:=HRr.out.cell (j:=7) rfl
        have f7:=HRr.out.free 7
        have q8:=HRr.out.cell (j:=8) rfl
        have f8:=HRr.out.free 8
        have q9:=HRr.out.cell (j:=9) rfl
        have f9:=HRr.out.free 9
        have q10:=HRr.out.cell (j:=10) rfl
        have f10:=HRr.out.free 10
        have z0:=HNr.out.cell (j:=0) rfl
        have z1:=HNr.out.cell (j:=1) rfl
        have z2:=HNr.out.cell (j:=2) rfl
        have z3:=HNr.out.cell (j:=3) rfl
        have z4:=HNr.out.cell (j:=4) rfl
        have z5:=HNr.out.cell (j:=5) rfl
        have z6:=HNr.out.cell (j:=6) rfl
        have z7:=HNr.out.cell (j:=7) rfl
        have z8:=HNr.out.cell (j:=8) rfl
        have z9:=HNr.out.cell (j:=9) rfl
        have z10:=HNr.out.cell (j:=10) rfl
        go_wp2_with fail
        (try simp only [Exit.inBlock,Exit.then])
        have hz9:=blk_eleven HRr.out (.int .i64 0) (.int .i64 0) (.int .i64 0) (.int .i64 0) (.bool false) (.int .i64 0) (.int .i64 0) (.slice none 0 0) (.int .i64 0) (.string ⟨#[]⟩) (.slice none 0 0)
        have hg9:=grown_eleven (wr) w.heap.size (.int .i64 0) (.int .i64 0) (.int .i64 0) (.int .i64 0) (.bool false) (.int .i64 0) (.int .i64 0) (.slice none 0 0) (.int .i64 0) (.string ⟨#[]⟩) (.slice none 0 0)
        have HB9:=zA (HBW.out.grown hg9 HBW.out.size (fun q e=>by have:=Option.some.inj e; omega))
        refine bodyPost_ret (v:=.tuple #[.agg #[.int .i64 0,.int .i64 0,.int .i64 0,.int .i64 0,.bool false,.int .i64 0,.int .i64 0,.slice none 0 0,.int .i64 0,.string ⟨#[]⟩,.slice none 0 0],.int .i64 1]) ?_ rfl ?_
        ·exact results_row_tmp (p:=2) (u:=3) rfl _ _ w.heap.size 25 _ (0,0) _ rfl hz9 Tryz.underlying25 rfl (by kernel_rfl)
        ·rw [HZ9.out]; exact retM_zero _ HB9.out
theorem rg_any (s:ByteArray) (w:World) (hm:s.size≤9223372036854775807):Calls Tryz.prog 15 #[.string s] w (RetM w (getM s)):=by
 unfold getM
 by_cases hb:(getL s).bad≠0
 ·rw [if_pos hb]
  exact rg_bad s w hm hb
 ·rw [if_neg hb]
  have hb:(getL s).bad=0:=Classical.byContradiction hb
  by_cases hh:headV (getL s).v
  ·exact rg_go s w hm hb _ rfl hh _ (zA rfl)
  ·have hr:readM (getL s).v=(Ms.zero,1):=by
    unfold readM
    rw [if_neg (fun h=>hh h.1)]
   rw [hr]
   exact rg_head s w hm hb _ rfl hh
end Go.Proofs.YtlpgbmaoenncjaaGreatDoor

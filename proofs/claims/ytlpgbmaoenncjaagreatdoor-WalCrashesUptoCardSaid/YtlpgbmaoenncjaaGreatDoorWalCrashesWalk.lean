/-
  The walk of the law WalCrashes: it returns true. (Written by wip/mkwyc.py.)
-/
import Derived.Test.YtlpgbmaoenncjaaGreatDoorWoE
import Derived.Test.YtlpgbmaoenncjaaGreatDoorWyAll
import Derived.Test.YtlpgbmaoenncjaaGreatDoorDkTwo
import Derived.Test.YtlpgbmaoenncjaaGreatDoorWsX
import Derived.Lib.MinMax
namespace Go.Proofs.YtlpgbmaoenncjaaGreatDoor
open Go.RowKit
set_option linter.unusedVariables false
set_option maxRecDepth 100000
set_option maxHeartbeats 8000000 in
theorem walCrashes_walk (one:Hd) (ar:Option Addr) (nr cr:Nat) (av:Option Addr) (nv cv:Nat) (two:Hd) (ar1:Option Addr) (nr1 cr1:Nat) (av1:Option Addr) (nv1 cv1:Nat) (room left:Int) (ak:Option Addr) (nk ck:Nat) (keep:List Int) (w:World) (H:HdAt w one ar nr cr av nv cv) (H1:HdAt w two ar1 nr1 cr1 av1 nv1 cv1) (hrb:-9223372036854775808≤room∧room≤9223372036854775807) (hlb:-9223372036854775808≤left∧left≤9223372036854775807) (hk:SlAt w ak nk (i64s keep)) (hkn:nk≤100000000000000) (htab:Lib.TabIs Tryz.prog w "internal/strconv.uint64pow10" .u64 Lib.pow10Tab) :
 Calls Tryz.prog 6 #[one.val ar nr cr av nv cv,two.val ar1 nr1 cr1 av1 nv1 cv1,.int .i64 room,.int .i64 left,.slice ak nk ck] w (fun e w'=>e = .returned (.bool true)∧Below w.heap.size w w'):=by
 have HT:=Lib.hid (Lib.tabBelow_of_tabIs htab)
 have HN:=Lib.hid H
 have HM:=Lib.hid H1
 obtain⟨r1,hr1⟩:∃ r,r=rightH one:=⟨_,rfl⟩
 obtain⟨r2,hr2⟩:∃ r,r=rightH two:=⟨_,rfl⟩
 have HS1:Hid (∀ W,Below w.heap.size w W→Calls Tryz.prog 18 #[one.val ar nr cr av nv cv] W fun e w'=>(∃ b,e = .returned (.bool b)∧(b=true→smallH one))∧Below W.heap.size W w'):=Lib.hid fun W hb=>small14_sum one ar nr cr av nv cv W (HN.out.keep hb)
 have HS2:Hid (∀ W,Below w.heap.size w W→Calls Tryz.prog 18 #[two.val ar1 nr1 cr1 av1 nv1 cv1] W fun e w'=>(∃ b,e = .returned (.bool b)∧(b=true→smallH two))∧Below W.heap.size W w'):=Lib.hid fun W hb=>small14_sum two ar1 nr1 cr1 av1 nv1 cv1 W (HM.out.keep hb)
 have HR1:Hid (∀ W,Below w.heap.size w W→Calls Tryz.prog 23 #[one.val ar nr cr av nv cv] W fun e w'=>e = .returned (.bool r1)∧Below W.heap.size W w'):=Lib.hid fun W hb=>wright_any one ar nr cr av nv cv W (HN.out.keep hb) (HT.out _ hb) r1 (Lib.hid hr1)
 have HR2:Hid (∀ W,Below w.heap.size w W→Calls Tryz.prog 23 #[two.val ar1 nr1 cr1 av1 nv1 cv1] W fun e w'=>e = .returned (.bool r2)∧Below W.heap.size W w'):=Lib.hid fun W hb=>wright_any two ar1 nr1 cr1 av1 nv1 cv1 W (HM.out.keep hb) (HT.out _ hb) r2 (Lib.hid hr2)
 have HAL:Hid (∀ W,Below w.heap.size w W→Calls Tryz.prog 21 #[] W fun e w'=>e = .returned (.bool true)∧Below W.heap.size W w'):=Lib.hid fun W hb=>alive14_any W (HT.out _ hb)
 have HKP:=Lib.hid hk
 have HKN:=Lib.hid hkn
 clear hk hkn hrb hlb
 have HRR:=Lib.hid (And.intro hr1 hr2)
 clear hr1 hr2 htab H H1
 obtain⟨tm,vt,bs,bt,rs,sn,vs⟩:=one
 obtain⟨tm1,vt1,bs1,bt1,rs1,sn1,vs1⟩:=two
 unfold Hd.val at *
 dsimp only at *
 have HB0:=Lib.hid (((Below.refl w.heap.size w).alloc (Nat.le_refl _) (.cells #[.int .i64 tm,.int .i64 vt,.int .i64 bs,.int .i64 bt,.slice ar nr cr,.string sn,.slice av nv cv] 42)).alloc (by simp) (.cells #[.int .i64 tm1,.int .i64 vt1,.int .i64 bs1,.int .i64 bt1,.slice ar1 nr1 cr1,.string sn1,.slice av1 nv1 cv1] 42))
 have HU0:Hid (Blk ((w.alloc (.cells #[.int .i64 tm,.int .i64 vt,.int .i64 bs,.int .i64 bt,.slice ar nr cr,.string sn,.slice av nv cv] 42)).alloc (.cells #[.int .i64 tm1,.int .i64 vt1,.int .i64 bs1,.int .i64 bt1,.slice ar1 nr1 cr1,.string sn1,.slice av1 nv1 cv1] 42)) w.heap.size 42 [.int .i64 tm,.int .i64 vt,.int .i64 bs,.int .i64 bt,.slice ar nr cr,.string sn,.slice av nv cv]):=Lib.hid (Blk.both w (.cells #[.int .i64 tm,.int .i64 vt,.int .i64 bs,.int .i64 bt,.slice ar nr cr,.string sn,.slice av nv cv] 42) (.cells #[.int .i64 tm1,.int .i64 vt1,.int .i64 bs1,.int .i64 bt1,.slice ar1 nr1 cr1,.string sn1,.slice av1 nv1 cv1] 42) 42 42 [.int .i64 tm,.int .i64 vt,.int .i64 bs,.int .i64 bt,.slice ar nr cr,.string sn,.slice av nv cv] [.int .i64 tm1,.int .i64 vt1,.int .i64 bs1,.int .i64 bt1,.slice ar1 nr1 cr1,.string sn1,.slice av1 nv1 cv1] rfl rfl).1
 have HV0:Hid (Blk ((w.alloc (.cells #[.int .i64 tm,.int .i64 vt,.int .i64 bs,.int .i64 bt,.slice ar nr cr,.string sn,.slice av nv cv] 42)).alloc (.cells #[.int .i64 tm1,.int .i64 vt1,.int .i64 bs1,.int .i64 bt1,.slice ar1 nr1 cr1,.string sn1,.slice av1 nv1 cv1] 42)) (w.heap.size+1) 42 [.int .i64 tm1,.int .i64 vt1,.int .i64 bs1,.int .i64 bt1,.slice ar1 nr1 cr1,.string sn1,.slice av1 nv1 cv1]):=Lib.hid (Blk.both w (.cells #[.int .i64 tm,.int .i64 vt,.int .i64 bs,.int .i64 bt,.slice ar nr cr,.string sn,.slice av nv cv] 42) (.cells #[.int .i64 tm1,.int .i64 vt1,.int .i64 bs1,.int .i64 bt1,.slice ar1 nr1 cr1,.string sn1,.slice av1 nv1 cv1] 42) 42 42 [.int .i64 tm,.int .i64 vt,.int .i64 bs,.int .i64 bt,.slice ar nr cr,.string sn,.slice av nv cv] [.int .i64 tm1,.int .i64 vt1,.int .i64 bs1,.int .i64 bt1,.slice ar1 nr1 cr1,.string sn1,.slice av1 nv1 cv1] rfl rfl).2
 have x0:=HU0.out.cell (j:=0) rfl; have x1:=HU0.out.cell (j:=1) rfl; have x2:=HU0.out.cell (j:=2) rfl; have x3:=HU0.out.cell (j:=3) rfl; have x4:=HU0.out.cell (j:=4) rfl; have x5:=HU0.out.cell (j:=5) rfl; have x6:=HU0.out.cell (j:=6) rfl
 go_enter Tryz.func6,Tryz.ntmps6
 go_upto_region 1 with fail
 generalize ((w.alloc (.cells #[.int .i64 tm,.int .i64 vt,.int .i64 bs,.int .i64 bt,.slice ar nr cr,.string sn,.slice av nv cv] 42)).alloc (.cells #[.int .i64 tm1,.int .i64 vt1,.int .i64 bs1,.int .i64 bt1,.slice ar1 nr1 cr1,.string sn1,.slice av1 nv1 cv1] 42))=w0 at *
 go_wp2_with fail
 refine (HS1.out _ HB0.out).mono ?_
 rintro e w1 ⟨⟨b,rfl,hsm⟩,hb1⟩
 dsimp only
 have HB1:=Lib.hid (below_then HB0.out hb1 HB0.out.size)
 have HU1:=Lib.hid (HU0.out.keep hb1)
 have HV1:=Lib.hid (HV0.out.keep hb1)
 clear x0 x1 x2 x3 x4 x5 x6 HS1 hb1
 clear HB0 HU0 HV0
 have HSA:=Lib.hid hsm
 clear hsm
 cases b with
 | false =>
   go_wp2_with fail
   refine (HAL.out _ HB1.out).mono ?_
   rintro e w2 ⟨rfl,hb2⟩
   dsimp only
   have HB2:=Lib.hid (below_then HB1.out hb2 HB1.out.size)
   go_wp2_with fail
   go_ret
   exact⟨rfl,HB2.out⟩
 | true =>
   have y0:=HV1.out.cell (j:=0) rfl; have y1:=HV1.out.cell (j:=1) rfl; have y2:=HV1.out.cell (j:=2) rfl; have y3:=HV1.out.cell (j:=3) rfl; have y4:=HV1.out.cell (j:=4) rfl; have y5:=HV1.out.cell (j:=5) rfl; have y6:=HV1.out.cell (j:=6) rfl
   go_wp2_with fail
   refine (HS2.out _ HB1.out).mono ?_
   rintro e w2 ⟨⟨b,rfl,hsm⟩,hb2⟩
   dsimp only
   have HB2:=Lib.hid (below_then HB1.out hb2 HB1.out.size)
   have HU2:=Lib.hid (HU1.out.keep hb2)
   have HV2:=Lib.hid (HV1.out.keep hb2)
   clear y0 y1 y2 y3 y4 y5 y6 HS2 hb2
   clear HB1 HU1 HV1
   have HSB:=Lib.hid hsm
   clear hsm
   cases b with
   | false =>
     go_wp2_with fail
     refine (HAL.out _ HB2.out).mono ?_
     rintro e w3 ⟨rfl,hb3⟩
     dsimp only
     have HB3:=Lib.hid (below_then HB2.out hb3 HB2.out.size)
     go_wp2_with fail
     go_ret
     exact⟨rfl,HB3.out⟩
   | true =>
     have x0:=HU2.out.cell (j:=0) rfl; have x1:=HU2.out.cell (j:=1) rfl; have x2:=HU2.out.cell (j:=2) rfl; have x3:=HU2.out.cell (j:=3) rfl; have x4:=HU2.out.cell (j:=4) rfl; have x5:=HU2.out.cell (j:=5) rfl; have x6:=HU2.out.cell (j:=6) rfl
     go_wp2_with fail
     refine (HR1.out _ HB2.out).mono ?_
     rintro e w3 ⟨rfl,hb3⟩
     dsimp only
     have HB3:=Lib.hid (below_then HB2.out hb3 HB2.out.size)
     have HU3:=Lib.hid (HU2.out.keep hb3)
     have HV3:=Lib.hid (HV2.out.keep hb3)
     clear x0 x1 x2 x3 x4 x5 x6 HR1 hb3
     clear HB2 HU2 HV2
     cases r1 with
     | false =>
       go_wp2_with fail
       refine (HAL.out _ HB3.out).mono ?_
       rintro e w4 ⟨rfl,hb4⟩
       dsimp only
       have HB4:=Lib.hid (below_then HB3.out hb4 HB3.out.size)
       go_wp2_with fail
       go_ret
       exact⟨rfl,HB4.out⟩
     | true =>
       have y0:=HV3.out.cell (j:=0) rfl; have y1:=HV3.out.cell (j:=1) rfl; have y2:=HV3.out.cell (j:=2) rfl; have y3:=HV3.out.cell (j:=3) rfl; have y4:=HV3.out.cell (j:=4) rfl; have y5:=HV3.out.cell (j:=5) rfl; have y6:=HV3.out.cell (j:=6) rfl
       go_wp2_with fail
       refine (HR2.out _ HB3.out).mono ?_
       rintro e w4 ⟨rfl,hb4⟩
       dsimp only
       have HB4:=Lib.hid (below_then HB3.out hb4 HB3.out.size)
       have HU4:=Lib.hid (HU3.out.keep hb4)
       have HV4:=Lib.hid (HV3.out.keep hb4)
       clear y0 y1 y2 y3 y4 y5 y6 HR2 hb4
       clear HB3 HU3 HV3
       cases r2 with
       | false =>
         go_wp2_with fail
         refine (HAL.out _ HB4.out).mono ?_
         rintro e w5 ⟨rfl,hb5⟩
         dsimp only
         have HB5:=Lib.hid (below_then HB4.out hb5 HB4.out.size)
         go_wp2_with fail
         go_ret
         exact⟨rfl,HB5.out⟩
       | true =>
         have HX:=Lib.hid (crash_two rightH_zero HRR.out.1.symm HRR.out.2.symm (HSA.out (by trivial)) (HSB.out (by trivial)) room left keep)
         obtain⟨⟨Ar,Af,Al,Ad⟩,⟨⟨Xr,Xf,Xl,Xd⟩,xe⟩,z,⟨Er,Ef,El,Ed⟩,ha1,ha2,ha3,ha4,ha5,ha6,ha7,ha8⟩:=HX.out
         dsimp only at ha2 ha3 ha4 ha5 ha6 ha7 ha8
         have HSV:Hid (∀ W,Below w.heap.size w W→Calls Tryz.prog 19 #[.agg #[.int .i64 1048576,.slice none 0 0,.int .i64 (-1),.bool false],.agg #[.int .i64 0,.int .i64 0,.int .i64 0,.int .i64 0,.slice none 0 0,.string ⟨#[]⟩,.slice none 0 0],.agg #[.int .i64 tm,.int .i64 vt,.int .i64 bs,.int .i64 bt,.slice ar nr cr,.string sn,.slice av nv cv]] W (RetDk W (⟨Ar,Af,Al,Ad⟩,0))):=Lib.hid fun W hb=>by rw [← ha1]; exact wsave_all none 0 0 freshD Hd.zero ⟨tm,vt,bs,bt,rs,sn,vs⟩ none 0 0 none 0 0 ar nr cr av nv cv W fresh_at (hdAt_zero W) (HN.out.keep hb) (HT.out _ hb)
         obtain⟨lf,hlf⟩:∃ l,l=min (max left (-1)) 9:=⟨_,rfl⟩
         obtain⟨rm,hrm⟩:∃ r,r=min (max room (szS Af:Int)) 1048576:=⟨_,rfl⟩
         rw [← hlf,← hrm] at ha3 ha4
         have HFZ:=Lib.hid ha2
         have HCU:=Lib.hid ha3
         have HSW:=Lib.hid ha4
         have HCR:=Lib.hid ha5
         have HLZ:=Lib.hid ha6
         have HOO:=Lib.hid ha7
         have HEN:=Lib.hid ha8
         have HLF:=Lib.hid hlf
         have HRM:=Lib.hid hrm
         clear ha1 ha2 ha3 ha4 ha5 ha6 ha7 ha8 hlf hrm HX HRR HSA HSB
         have x0:=HU4.out.cell (j:=0) rfl; have x1:=HU4.out.cell (j:=1) rfl; have x2:=HU4.out.cell (j:=2) rfl; have x3:=HU4.out.cell (j:=3) rfl; have x4:=HU4.out.cell (j:=4) rfl; have x5:=HU4.out.cell (j:=5) rfl; have x6:=HU4.out.cell (j:=6) rfl
         go_upto_region 3 with fail
         go_wp2_with fail
         refine (HSV.out _ HB4.out).mono ?_
         rintro e w5 ⟨a5,n5,c5,rfl,hd5,hb5⟩
         unfold Dk.val
         dsimp only at hd5 ⊢
         clear x0 x1 x2 x3 x4 x5 x6 HSV
         have HB5:=Lib.hid (below_then HB4.out hb5 HB4.out.size)
         have HU5:=Lib.hid (HU4.out.keep hb5)
         have HV5:=Lib.hid (HV4.out.keep hb5)
         clear HB4 HU4 HV4
         clear hb5
         have hb6:Below w5.heap.size w5 (w5.alloc (.cells #[.int .i64 Ar,.slice a5 n5 c5,.int .i64 Al,.bool Ad] 38)):=(Below.refl _ w5).alloc (Nat.le_refl _) _
         have HB6:=Lib.hid (below_then HB5.out hb6 HB5.out.size)
         have HU6:=Lib.hid (HU5.out.keep hb6)
         have HV6:=Lib.hid (HV5.out.keep hb6)
         have HDX6:=Lib.hid (hd5.keep hb6)
         have HBA6:Hid (DkBox (w5.alloc (.cells #[.int .i64 Ar,.slice a5 n5 c5,.int .i64 Al,.bool Ad] 38)) w5.heap.size ⟨Ar,Af,Al,Ad⟩ a5 n5 c5):=Lib.hid (DkBox.new w5 ⟨Ar,Af,Al,Ad⟩ a5 n5 c5)
         have HPS:Hid (w.heap.size+1<w5.heap.size):=Lib.hid (lt_of_block HV5.out)
         have hnl:n5=Af.length:=hd5.len.symm
         have hn5:=hd5.nb
         have HNL:=Lib.hid hnl
         have HSM:=Lib.hid hd5.small
         clear HB5 HU5 HV5
         clear hd5 hb6 hnl
         go_upto_region 4 with fail
         generalize w5.alloc (.cells #[.int .i64 Ar,.slice a5 n5 c5,.int .i64 Al,.bool Ad] 38)=w6 at *
         generalize w5.heap.size=s6 at *
         have q0:=HBA6.out.c0; have q1:=HBA6.out.c1; have q2:=HBA6.out.c2; have q3:=HBA6.out.c3
         dsimp only at q0 q1 q2 q3
         go_upto_region 7 with fail
         go_wp2_with fail
         clear q0 q1 q2 q3
         go_loopg [13,15,52] n5 (fun gk v13 v15 i wr=>∃ k K:Nat,k≤n5∧gk=n5 - k∧i = .int .i64 (k:Int)∧v13 = .int .i64 (K:Int)∧K≤1048576∧Hid (K=szS (Af.take k))∧Hid (Below w6.heap.size w6 wr))
         case atStart=>exact⟨0,0,Nat.zero_le _,rfl,rfl,rfl,Nat.zero_le _,Lib.hid rfl,Lib.hid (Below.refl _ _)⟩
         case round =>
          obtain⟨k,K,hk,rfl,rfl,rfl,hK,HKS,hB⟩:=hrel
          by_cases hkn:k<n5
          ·have hki:(k:Int)<(n5:Int):=by omega
           have hkl:k<Af.length:=by rw [← HNL.out]; exact hkn
           obtain⟨-,b,off,rfl,hc⟩:=fl_at (HDX6.out.sl.keep hB.out) (by omega)
           obtain⟨c0,c1,c2⟩:=hc k hkl
           have hsz:=szS_take hkl
           have hpa:=szS_part Af (k+1)
           have hfz:=HFZ.out
           rw [hsz,← HKS.out] at hpa
           rw [← HKS.out] at hsz
           clear hc
           generalize Af[k]=r at *
           obtain⟨rn,ry,rt⟩:=r
           dsimp only at hsz hpa c0 c1 c2
           have hlim:(K:Int)+((ry.size:Int)+(rt.size:Int))≤1048576:=by omega
           have HSZ:=Lib.hid hsz
           have HKK:=Lib.hid (show K+(ry.size+rt.size)≤1048576 by omega)
           have HB1:=Lib.hid (hB.out.alloc hB.out.size (.cells #[.string rn,.string ry,.string rt] 55))
           clear hsz hpa hfz
           go_wp2_with fail
           go_roundg (n5 - (k+1))
           case rel=>exact⟨k+1,K+(ry.size+rt.size),by omega,rfl,by go_num,by go_num,HKK.out,Lib.hid HSZ.out.symm,HB1⟩
           case measure=>omega
          ·have hki:(n5:Int)≤(k:Int):=by omega
           have HKE:Hid ((K:Int)=(szS Af:Int)):=Lib.hid (by rw [HKS.out,show k=Af.length by have:=HNL.out; omega,List.take_length])
           clear HKS
           generalize wr=w7 at *
           have hb7:=hB.out
           have HB7:=Lib.hid (below_then HB6.out hb7 HB6.out.size)
           have HU7:=Lib.hid (HU6.out.keep hb7)
           have HV7:=Lib.hid (HV6.out.keep hb7)
           have HBA7:=Lib.hid (HBA6.out.keep hb7)
           have HDX7:=Lib.hid (HDX6.out.keep hb7)
           clear hB hb7 HDX6
           clear HB6 HU6 HV6 HBA6
           have q0:=HBA7.out.c0; have q1:=HBA7.out.c1; have q2:=HBA7.out.c2; have q3:=HBA7.out.c3
           have f0:=HBA7.out.free 0; have f1:=HBA7.out.free 1; have f2:=HBA7.out.free 2; have f3:=HBA7.out.free 3
           dsimp only at q0 q1 q2 q3
           go_upto_region 13 with fail
           rw [show min (max room (K:Int)) 1048576=rm from by rw [HKE.out]; exact HRM.out.symm]
           have hg7:=grown_setCell w7 s6 0 (.int .i64 rm)
           have HP7:=HPS.out
           have HB8:Hid (Below w.heap.size w (w7.setCell ⟨s6,0,none⟩ (.int .i64 rm))):=Lib.hid (HB7.out.grown hg7 HB7.out.size (fun q e=>by have:=Option.some.inj e; omega))
           have HU8:Hid (Blk (w7.setCell ⟨s6,0,none⟩ (.int .i64 rm)) w.heap.size 42 [.int .i64 tm,.int .i64 vt,.int .i64 bs,.int .i64 bt,.slice ar nr cr,.string sn,.slice av nv cv]):=Lib.hid (HU7.out.kept hg7 (fun e=>by have:=Option.some.inj e; omega))
           have HV8:Hid (Blk (w7.setCell ⟨s6,0,none⟩ (.int .i64 rm)) (w.heap.size+1) 42 [.int .i64 tm1,.int .i64 vt1,.int .i64 bs1,.int .i64 bt1,.slice ar1 nr1 cr1,.string sn1,.slice av1 nv1 cv1]):=Lib.hid (HV7.out.kept hg7 (fun e=>by have:=Option.some.inj e; omega))
           have HBA8:Hid (DkBox (w7.setCell ⟨s6,0,none⟩ (.int .i64 rm)) s6 ⟨rm,Af,Al,Ad⟩ a5 n5 c5):=Lib.hid (Four.set0 HBA7.out _)
           have hap:=dk_apart HDX7.out (show Blk w7 s6 38 [.int .i64 Ar,.slice a5 n5 c5,.int .i64 Al,.bool Ad] from HBA7.out) apart_four hg7
           have HDX8:Hid (DkAt (w7.setCell ⟨s6,0,none⟩ (.int .i64 rm)) a5 n5 c5 ⟨rm,Af,Al,Ad⟩):=Lib.hid ⟨hap.sl,hap.nc,hap.cm,hap.cn,hap.nb,hap.small,(show -9223372036854775808≤rm∧rm≤9223372036854775807 from by have:=HRM.out; omega),hap.lw⟩
           clear q0 q1 q2 q3 f0 f1 f2 f3 hg7 hap HP7 HDX7 HKE HRM HFZ hK hki hkn
           clear HB7 HU7 HV7 HBA7
           generalize w7.setCell ⟨s6,0,none⟩ (.int .i64 rm)=w8 at *
           have q0:=HBA8.out.c0; have q1:=HBA8.out.c1; have q2:=HBA8.out.c2; have q3:=HBA8.out.c3
           dsimp only at q0 q1 q2 q3
           have HCC:=Lib.hid (cut_any a5 n5 c5 ⟨rm,Af,Al,Ad⟩ lf w8 HDX8.out)
           rw [HCU.out] at HCC
           unfold Dk.val at HCC
           dsimp only at HCC
           go_wp2_with fail
           rw [← HLF.out]
           refine HCC.out.mono ?_
           rintro e w9 ⟨a9,n9,c9,rfl,hd9,hb9⟩
           unfold Dk.val
           dsimp only at hd9 ⊢
           clear q0 q1 q2 q3 HCC HDX8 HCU HLF
           have HB9:=Lib.hid (below_then HB8.out hb9 HB8.out.size)
           have HU9:=Lib.hid (HU8.out.keep hb9)
           have HV9:=Lib.hid (HV8.out.keep hb9)
           have HBA9:=Lib.hid (HBA8.out.keep hb9)
           clear HB8 HU8 HV8 HBA8
           have HDX9:=Lib.hid hd9
           clear hb9 hd9
           have q0:=HBA9.out.c0; have q1:=HBA9.out.c1; have q2:=HBA9.out.c2; have q3:=HBA9.out.c3
           have f0:=HBA9.out.free 0; have f1:=HBA9.out.free 1; have f2:=HBA9.out.free 2; have f3:=HBA9.out.free 3
           dsimp only at q0 q1 q2 q3
           go_upto_region 14 with fail
           clear q0 q1 q2 q3 f0 f1 f2 f3
           have hg9:=grown_four w9 s6 (.int .i64 rm) (.slice a9 n9 c9) (.int .i64 lf) (.bool Ad)
           have HP9:=HPS.out
           have HB10:Hid (Below w.heap.size w ((((w9.setCell ⟨s6,0,none⟩ (.int .i64 rm)).setCell ⟨s6,1,none⟩ (.slice a9 n9 c9)).setCell ⟨s6,2,none⟩ (.int .i64 lf)).setCell ⟨s6,3,none⟩ (.bool Ad))):=Lib.hid (HB9.out.grown hg9 HB9.out.size (fun q e=>by have:=Option.some.inj e; omega))
           have HU10:Hid (Blk ((((w9.setCell ⟨s6,0,none⟩ (.int .i64 rm)).setCell ⟨s6,1,none⟩ (.slice a9 n9 c9)).setCell ⟨s6,2,none⟩ (.int .i64 lf)).setCell ⟨s6,3,none⟩ (.bool Ad)) w.heap.size 42 [.int .i64 tm,.int .i64 vt,.int .i64 bs,.int .i64 bt,.slice ar nr cr,.string sn,.slice av nv cv]):=Lib.hid (HU9.out.kept hg9 (fun e=>by have:=Option.some.inj e; omega))
           have HV10:Hid (Blk ((((w9.setCell ⟨s6,0,none⟩ (.int .i64 rm)).setCell ⟨s6,1,none⟩ (.slice a9 n9 c9)).setCell ⟨s6,2,none⟩ (.int .i64 lf)).setCell ⟨s6,3,none⟩ (.bool Ad)) (w.heap.size+1) 42 [.int .i64 tm1,.int .i64 vt1,.int .i64 bs1,.int .i64 bt1,.slice ar1 nr1 cr1,.string sn1,.slice av1 nv1 cv1]):=Lib.hid (HV9.out.kept hg9 (fun e=>by have:=Option.some.inj e; omega))
           have HBA10:Hid (DkBox ((((w9.setCell ⟨s6,0,none⟩ (.int .i64 rm)).setCell ⟨s6,1,none⟩ (.slice a9 n9 c9)).setCell ⟨s6,2,none⟩ (.int .i64 lf)).setCell ⟨s6,3,none⟩ (.bool Ad)) s6 ⟨rm,Af,lf,Ad⟩ a9 n9 c9):=Lib.hid (DkBox.setF HBA9.out ⟨rm,Af,lf,Ad⟩ a9 n9 c9)
           have HDX10:Hid (DkAt ((((w9.setCell ⟨s6,0,none⟩ (.int .i64 rm)).setCell ⟨s6,1,none⟩ (.slice a9 n9 c9)).setCell ⟨s6,2,none⟩ (.int .i64 lf)).setCell ⟨s6,3,none⟩ (.bool Ad)) a9 n9 c9 ⟨rm,Af,lf,Ad⟩):=Lib.hid (dk_apart HDX9.out (show Blk w9 s6 38 [.int .i64 rm,.slice a5 n5 c5,.int .i64 Al,.bool Ad] from HBA9.out) apart_four hg9)
           clear hg9 HP9 HDX9
           clear HB9 HU9 HV9 HBA9
           generalize ((((w9.setCell ⟨s6,0,none⟩ (.int .i64 rm)).setCell ⟨s6,1,none⟩ (.slice a9 n9 c9)).setCell ⟨s6,2,none⟩ (.int .i64 lf)).setCell ⟨s6,3,none⟩ (.bool Ad))=w10 at *
           have q0:=HBA10.out.c0; have q1:=HBA10.out.c1; have q2:=HBA10.out.c2; have q3:=HBA10.out.c3
           dsimp only at q0 q1 q2 q3
           have x0:=HU10.out.cell (j:=0) rfl; have x1:=HU10.out.cell (j:=1) rfl; have x2:=HU10.out.cell (j:=2) rfl; have x3:=HU10.out.cell (j:=3) rfl; have x4:=HU10.out.cell (j:=4) rfl; have x5:=HU10.out.cell (j:=5) rfl; have x6:=HU10.out.cell (j:=6) rfl
           have y0:=HV10.out.cell (j:=0) rfl; have y1:=HV10.out.cell (j:=1) rfl; have y2:=HV10.out.cell (j:=2) rfl; have y3:=HV10.out.cell (j:=3) rfl; have y4:=HV10.out.cell (j:=4) rfl; have y5:=HV10.out.cell (j:=5) rfl; have y6:=HV10.out.cell (j:=6) rfl
           have HCC:=Lib.hid (wsave_all a9 n9 c9 ⟨rm,Af,lf,Ad⟩ ⟨tm,vt,bs,bt,rs,sn,vs⟩ ⟨tm1,vt1,bs1,bt1,rs1,sn1,vs1⟩ ar nr cr av nv cv ar1 nr1 cr1 av1 nv1 cv1 w10 HDX10.out (HN.out.keep HB10.out) (HM.out.keep HB10.out) (HT.out _ HB10.out))
           rw [HSW.out] at HCC
           unfold Dk.val Hd.val at HCC
           dsimp only at HCC
           go_wp2_with fail
           refine HCC.out.mono ?_
           rintro e w11 ⟨a11,n11,c11,rfl,hd11,hb11⟩
           unfold Dk.val
           dsimp only at hd11 ⊢
           clear q0 q1 q2 q3 x0 x1 x2 x3 x4 x5 x6 y0 y1 y2 y3 y4 y5 y6 HCC HDX10 HSW
           have HB11:=Lib.hid (below_then HB10.out hb11 HB10.out.size)
           have HU11:=Lib.hid (HU10.out.keep hb11)
           have HV11:=Lib.hid (HV10.out.keep hb11)
           have HBA11:=Lib.hid (HBA10.out.keep hb11)
           clear HB10 HU10 HV10 HBA10
           have HDX11:=Lib.hid hd11
           clear hb11 hd11
           have q0:=HBA11.out.c0; have q1:=HBA11.out.c1; have q2:=HBA11.out.c2; have q3:=HBA11.out.c3
           have f0:=HBA11.out.free 0; have f1:=HBA11.out.free 1; have f2:=HBA11.out.free 2; have f3:=HBA11.out.free 3
           dsimp only at q0 q1 q2 q3
           go_upto_region 17 with fail
           clear q0 q1 q2 q3 f0 f1 f2 f3
           have hg11:=grown_four w11 s6 (.int .i64 Xr) (.slice a11 n11 c11) (.int .i64 Xl) (.bool Xd)
           have HP11:=HPS.out
           have HB12:Hid (Below w.heap.size w ((((w11.setCell ⟨s6,0,none⟩ (.int .i64 Xr)).setCell ⟨s6,1,none⟩ (.slice a11 n11 c11)).setCell ⟨s6,2,none⟩ (.int .i64 Xl)).setCell ⟨s6,3,none⟩ (.bool Xd))):=Lib.hid (HB11.out.grown hg11 HB11.out.size (fun q e=>by have:=Option.some.inj e; omega))
           have HU12:Hid (Blk ((((w11.setCell ⟨s6,0,none⟩ (.int .i64 Xr)).setCell ⟨s6,1,none⟩ (.slice a11 n11 c11)).setCell ⟨s6,2,none⟩ (.int .i64 Xl)).setCell ⟨s6,3,none⟩ (.bool Xd)) w.heap.size 42 [.int .i64 tm,.int .i64 vt,.int .i64 bs,.int .i64 bt,.slice ar nr cr,.string sn,.slice av nv cv]):=Lib.hid (HU11.out.kept hg11 (fun e=>by have:=Option.some.inj e; omega))
           have HV12:Hid (Blk ((((w11.setCell ⟨s6,0,none⟩ (.int .i64 Xr)).setCell ⟨s6,1,none⟩ (.slice a11 n11 c11)).setCell ⟨s6,2,none⟩ (.int .i64 Xl)).setCell ⟨s6,3,none⟩ (.bool Xd)) (w.heap.size+1) 42 [.int .i64 tm1,.int .i64 vt1,.int .i64 bs1,.int .i64 bt1,.slice ar1 nr1 cr1,.string sn1,.slice av1 nv1 cv1]):=Lib.hid (HV11.out.kept hg11 (fun e=>by have:=Option.some.inj e; omega))
           have HBA12:Hid (DkBox ((((w11.setCell ⟨s6,0,none⟩ (.int .i64 Xr)).setCell ⟨s6,1,none⟩ (.slice a11 n11 c11)).setCell ⟨s6,2,none⟩ (.int .i64 Xl)).setCell ⟨s6,3,none⟩ (.bool Xd)) s6 ⟨Xr,Xf,Xl,Xd⟩ a11 n11 c11):=Lib.hid (DkBox.setF HBA11.out ⟨Xr,Xf,Xl,Xd⟩ a11 n11 c11)
           have HDX12:Hid (DkAt ((((w11.setCell ⟨s6,0,none⟩ (.int .i64 Xr)).setCell ⟨s6,1,none⟩ (.slice a11 n11 c11)).setCell ⟨s6,2,none⟩ (.int .i64 Xl)).setCell ⟨s6,3,none⟩ (.bool Xd)) a11 n11 c11 ⟨Xr,Xf,Xl,Xd⟩):=Lib.hid (dk_apart HDX11.out (show Blk w11 s6 38 [.int .i64 rm,.slice a9 n9 c9,.int .i64 lf,.bool Ad] from HBA11.out) apart_four hg11)
           clear hg11 HP11 HDX11
           clear HB11 HU11 HV11 HBA11
           generalize ((((w11.setCell ⟨s6,0,none⟩ (.int .i64 Xr)).setCell ⟨s6,1,none⟩ (.slice a11 n11 c11)).setCell ⟨s6,2,none⟩ (.int .i64 Xl)).setCell ⟨s6,3,none⟩ (.bool Xd))=w12 at *
           have q0:=HBA12.out.c0; have q1:=HBA12.out.c1; have q2:=HBA12.out.c2; have q3:=HBA12.out.c3
           dsimp only at q0 q1 q2 q3
           have HCC:=Lib.hid (crash_any a11 n11 c11 ⟨Xr,Xf,Xl,Xd⟩ ak nk ck keep w12 HDX12.out (HKP.out.keep HB12.out) HKN.out)
           rw [HCR.out] at HCC
           obtain⟨Kf,hKf⟩:∃ K,K=crashF keep 0 Xf:=⟨_,rfl⟩
           rw [← hKf] at HCC HLZ HOO
           unfold Dk.val at HCC
           dsimp only at HCC
           go_wp2_with fail
           refine HCC.out.mono ?_
           rintro e w13 ⟨a13,n13,c13,rfl,hd13,hb13⟩
           unfold Dk.val
           dsimp only at hd13 ⊢
           clear q0 q1 q2 q3 HCC HDX12 HCR hKf
           have HB13:=Lib.hid (below_then HB12.out hb13 HB12.out.size)
           have HU13:=Lib.hid (HU12.out.keep hb13)
           have HV13:=Lib.hid (HV12.out.keep hb13)
           clear HB12 HU12 HV12 HBA12
           clear hb13
           have hb14:Below w13.heap.size w13 (w13.alloc (.cells #[.int .i64 Xr,.slice a13 n13 c13,.int .i64 (-1),.bool false] 38)):=(Below.refl _ w13).alloc (Nat.le_refl _) _
           have HB14:=Lib.hid (below_then HB13.out hb14 HB13.out.size)
           have HU14:=Lib.hid (HU13.out.keep hb14)
           have HV14:=Lib.hid (HV13.out.keep hb14)
           have HDX14:=Lib.hid (hd13.keep hb14)
           have HBA14:Hid (DkBox (w13.alloc (.cells #[.int .i64 Xr,.slice a13 n13 c13,.int .i64 (-1),.bool false] 38)) w13.heap.size ⟨Xr,Kf,-1,false⟩ a13 n13 c13):=Lib.hid (DkBox.new w13 ⟨Xr,Kf,-1,false⟩ a13 n13 c13)
           have HPT:Hid (w.heap.size+1<w13.heap.size):=Lib.hid (lt_of_block HV13.out)
           clear HB13 HU13 HV13
           clear hd13 hb14 HPS
           go_upto_region 18 with fail
           generalize (w13.alloc (.cells #[.int .i64 Xr,.slice a13 n13 c13,.int .i64 (-1),.bool false] 38))=w14 at *
           generalize w13.heap.size=s14 at *
           have q0:=HBA14.out.c0; have q1:=HBA14.out.c1; have q2:=HBA14.out.c2; have q3:=HBA14.out.c3
           have f0:=HBA14.out.free 0; have f1:=HBA14.out.free 1; have f2:=HBA14.out.free 2; have f3:=HBA14.out.free 3
           dsimp only at q0 q1 q2 q3
           go_upto_region 19 with fail
           have hg7:=grown_setCell w14 s14 0 (.int .i64 1048576)
           have HP7:=HPT.out
           have HB15:Hid (Below w.heap.size w (w14.setCell ⟨s14,0,none⟩ (.int .i64 1048576))):=Lib.hid (HB14.out.grown hg7 HB14.out.size (fun q e=>by have:=Option.some.inj e; omega))
           have HU15:Hid (Blk (w14.setCell ⟨s14,0,none⟩ (.int .i64 1048576)) w.heap.size 42 [.int .i64 tm,.int .i64 vt,.int .i64 bs,.int .i64 bt,.slice ar nr cr,.string sn,.slice av nv cv]):=Lib.hid (HU14.out.kept hg7 (fun e=>by have:=Option.some.inj e; omega))
           have HV15:Hid (Blk (w14.setCell ⟨s14,0,none⟩ (.int .i64 1048576)) (w.heap.size+1) 42 [.int .i64 tm1,.int .i64 vt1,.int .i64 bs1,.int .i64 bt1,.slice ar1 nr1 cr1,.string sn1,.slice av1 nv1 cv1]):=Lib.hid (HV14.out.kept hg7 (fun e=>by have:=Option.some.inj e; omega))
           have HBA15:Hid (DkBox (w14.setCell ⟨s14,0,none⟩ (.int .i64 1048576)) s14 ⟨1048576,Kf,-1,false⟩ a13 n13 c13):=Lib.hid (Four.set0 HBA14.out _)
           have hap:=dk_apart HDX14.out (show Blk w14 s14 38 [.int .i64 Xr,.slice a13 n13 c13,.int .i64 (-1),.bool false] from HBA14.out) apart_four hg7
           have HDX15:Hid (DkAt (w14.setCell ⟨s14,0,none⟩ (.int .i64 1048576)) a13 n13 c13 ⟨1048576,Kf,-1,false⟩):=Lib.hid ⟨hap.sl,hap.nc,hap.cm,hap.cn,hap.nb,hap.small,(show -9223372036854775808≤(1048576:Int)∧(1048576:Int)≤9223372036854775807 from by decide),hap.lw⟩
           clear q0 q1 q2 q3 f0 f1 f2 f3 hg7 hap HP7 HDX14 HPT
           clear HB14 HU14 HV14 HBA14
           generalize w14.setCell ⟨s14,0,none⟩ (.int .i64 1048576)=w15 at *
           have q0:=HBA15.out.c0; have q1:=HBA15.out.c1; have q2:=HBA15.out.c2; have q3:=HBA15.out.c3
           dsimp only at q0 q1 q2 q3
           have HCC:=Lib.hid (wopen_any a13 n13 c13 ⟨1048576,Kf,-1,false⟩ w15 HDX15.out HLZ.out (HT.out _ HB15.out) ⟨⟨Er,Ef,El,Ed⟩,z,0⟩ (Lib.hid HOO.out.symm))
           unfold OpenP Dk.val Hd.val at HCC
           dsimp only at HCC
           go_wp2_with fail
           refine HCC.out.mono ?_
           rintro e w16 ⟨a16,n16,c16,ar16,nr16,cr16,av16,nv16,cv16,rfl,hd16,hh16,hb16,-⟩
           dsimp only
           clear q0 q1 q2 q3 HCC HDX15 HLZ HOO hd16
           have HB16:=Lib.hid (below_then HB15.out hb16 HB15.out.size)
           have HU16:=Lib.hid (HU15.out.keep hb16)
           have HV16:=Lib.hid (HV15.out.keep hb16)
           clear HB15 HU15 HV15 HBA15
           clear hb16
           have hb17:Below w16.heap.size w16 ((w16.alloc (.cells #[.int .i64 Er,.slice a16 n16 c16,.int .i64 El,.bool Ed] 38)).alloc (.cells #[.int .i64 z.term,.int .i64 z.vote,.int .i64 z.base,.int .i64 z.bt,.slice ar16 nr16 cr16,.string z.snap,.slice av16 nv16 cv16] 42)):=((Below.refl _ w16).alloc (Nat.le_refl _) _).alloc (by simp) _
           have HB17:=Lib.hid (below_then HB16.out hb17 HB16.out.size)
           have HU17:=Lib.hid (HU16.out.keep hb17)
           have HV17:=Lib.hid (HV16.out.keep hb17)
           clear HB16 HU16 HV16
           have HHZ17:=Lib.hid (hh16.keep hb17)
           have HBZ17:Hid (Blk ((w16.alloc (.cells #[.int .i64 Er,.slice a16 n16 c16,.int .i64 El,.bool Ed] 38)).alloc (.cells #[.int .i64 z.term,.int .i64 z.vote,.int .i64 z.base,.int .i64 z.bt,.slice ar16 nr16 cr16,.string z.snap,.slice av16 nv16 cv16] 42)) (w16.heap.size+1) 42 [.int .i64 z.term,.int .i64 z.vote,.int .i64 z.base,.int .i64 z.bt,.slice ar16 nr16 cr16,.string z.snap,.slice av16 nv16 cv16]):=Lib.hid (Blk.both w16 (.cells #[.int .i64 Er,.slice a16 n16 c16,.int .i64 El,.bool Ed] 38) (.cells #[.int .i64 z.term,.int .i64 z.vote,.int .i64 z.base,.int .i64 z.bt,.slice ar16 nr16 cr16,.string z.snap,.slice av16 nv16 cv16] 42) 38 42 [.int .i64 Er,.slice a16 n16 c16,.int .i64 El,.bool Ed] [.int .i64 z.term,.int .i64 z.vote,.int .i64 z.base,.int .i64 z.bt,.slice ar16 nr16 cr16,.string z.snap,.slice av16 nv16 cv16] rfl rfl).2
           clear hh16 hb17
           go_upto_region 20 with fail
           generalize ((w16.alloc (.cells #[.int .i64 Er,.slice a16 n16 c16,.int .i64 El,.bool Ed] 38)).alloc (.cells #[.int .i64 z.term,.int .i64 z.vote,.int .i64 z.base,.int .i64 z.bt,.slice ar16 nr16 cr16,.string z.snap,.slice av16 nv16 cv16] 42))=w17 at *
           generalize w16.heap.size=s17 at *
           go_wp2_with fail
           refine (HAL.out _ HB17.out).mono ?_
           rintro e w18 ⟨rfl,hb18⟩
           dsimp only
           have HB18:=Lib.hid (below_then HB17.out hb18 HB17.out.size)
           have HU18:=Lib.hid (HU17.out.keep hb18)
           have HV18:=Lib.hid (HV17.out.keep hb18)
           have HHZ18:=Lib.hid (HHZ17.out.keep hb18)
           have HBZ18:=Lib.hid (HBZ17.out.keep hb18)
           clear HB17 HU17 HV17 HHZ17 HBZ17
           clear hb18 HAL
           rcases HEN.out with ⟨rfl,rfl⟩ | ⟨rfl,hzz⟩ | ⟨hx0,hx1,rfl⟩
           ·clear HEN
            have z0:=HBZ18.out.cell (j:=0) rfl; have z1:=HBZ18.out.cell (j:=1) rfl; have z2:=HBZ18.out.cell (j:=2) rfl; have z3:=HBZ18.out.cell (j:=3) rfl; have z4:=HBZ18.out.cell (j:=4) rfl; have z5:=HBZ18.out.cell (j:=5) rfl; have z6:=HBZ18.out.cell (j:=6) rfl
            have y0:=HV18.out.cell (j:=0) rfl; have y1:=HV18.out.cell (j:=1) rfl; have y2:=HV18.out.cell (j:=2) rfl; have y3:=HV18.out.cell (j:=3) rfl; have y4:=HV18.out.cell (j:=4) rfl; have y5:=HV18.out.cell (j:=5) rfl; have y6:=HV18.out.cell (j:=6) rfl
            (try dsimp only at z0 z1 z2 z3 z4 z5 z6)
            have HL2:=Lib.hid (like14_same ⟨tm1,vt1,bs1,bt1,rs1,sn1,vs1⟩ ar16 nr16 cr16 av16 nv16 cv16 ar1 nr1 cr1 av1 nv1 cv1 w18 HHZ18.out (HM.out.keep HB18.out))
            unfold Hd.val at HL2
            dsimp only at HL2
            go_wp2_with fail
            refine HL2.out.mono ?_
            rintro e w19 ⟨rfl,hb19⟩
            dsimp only
            have HB19:=Lib.hid (below_then HB18.out hb19 HB18.out.size)
            clear z0 z1 z2 z3 z4 z5 z6 y0 y1 y2 y3 y4 y5 y6 HL2 hb19
            go_wp2_with fail
            go_ret
            exact⟨rfl,HB19.out⟩
           ·clear HEN
            rcases hzz with rfl | rfl
            ·have z0:=HBZ18.out.cell (j:=0) rfl; have z1:=HBZ18.out.cell (j:=1) rfl; have z2:=HBZ18.out.cell (j:=2) rfl; have z3:=HBZ18.out.cell (j:=3) rfl; have z4:=HBZ18.out.cell (j:=4) rfl; have z5:=HBZ18.out.cell (j:=5) rfl; have z6:=HBZ18.out.cell (j:=6) rfl
             have x0:=HU18.out.cell (j:=0) rfl; have x1:=HU18.out.cell (j:=1) rfl; have x2:=HU18.out.cell (j:=2) rfl; have x3:=HU18.out.cell (j:=3) rfl; have x4:=HU18.out.cell (j:=4) rfl; have x5:=HU18.out.cell (j:=5) rfl; have x6:=HU18.out.cell (j:=6) rfl
             (try dsimp only at z0 z1 z2 z3 z4 z5 z6)
             have HL2:=Lib.hid (like14_same ⟨tm,vt,bs,bt,rs,sn,vs⟩ ar16 nr16 cr16 av16 nv16 cv16 ar nr cr av nv cv w18 HHZ18.out (HN.out.keep HB18.out))
             unfold Hd.val at HL2
             dsimp only at HL2
             go_wp2_with fail
             refine HL2.out.mono ?_
             rintro e w19 ⟨rfl,hb19⟩
             dsimp only
             have HB19:=Lib.hid (below_then HB18.out hb19 HB18.out.size)
             clear z0 z1 z2 z3 z4 z5 z6 x0 x1 x2 x3 x4 x5 x6 HL2 hb19
             go_wp2_with fail
             go_ret
             exact⟨rfl,HB19.out⟩
            ·obtain⟨v,hv⟩:∃ v,v=decide (sameH (⟨tm1,vt1,bs1,bt1,rs1,sn1,vs1⟩:Hd) ⟨tm,vt,bs,bt,rs,sn,vs⟩):=⟨_,rfl⟩
             have HL1:=Lib.hid (rlike14_any ⟨tm1,vt1,bs1,bt1,rs1,sn1,vs1⟩ ⟨tm,vt,bs,bt,rs,sn,vs⟩ ar16 nr16 cr16 av16 nv16 cv16 ar nr cr av nv cv w18 HHZ18.out (HN.out.keep HB18.out) v (Lib.hid hv))
             clear hv
             unfold Hd.val at HL1
             dsimp only at HL1
             have z0:=HBZ18.out.cell (j:=0) rfl; have z1:=HBZ18.out.cell (j:=1) rfl; have z2:=HBZ18.out.cell (j:=2) rfl; have z3:=HBZ18.out.cell (j:=3) rfl; have z4:=HBZ18.out.cell (j:=4) rfl; have z5:=HBZ18.out.cell (j:=5) rfl; have z6:=HBZ18.out.cell (j:=6) rfl
             have x0:=HU18.out.cell (j:=0) rfl; have x1:=HU18.out.cell (j:=1) rfl; have x2:=HU18.out.cell (j:=2) rfl; have x3:=HU18.out.cell (j:=3) rfl; have x4:=HU18.out.cell (j:=4) rfl; have x5:=HU18.out.cell (j:=5) rfl; have x6:=HU18.out.cell (j:=6) rfl
             (try dsimp only at z0 z1 z2 z3 z4 z5 z6)
             go_wp2_with fail
             refine HL1.out.mono ?_
             rintro e w19 ⟨rfl,hb19⟩
             dsimp only
             clear z0 z1 z2 z3 z4 z5 z6 x0 x1 x2 x3 x4 x5 x6 HL1
             have HB19:=Lib.hid (below_then HB18.out hb19 HB18.out.size)
             have HU19:=Lib.hid (HU18.out.keep hb19)
             have HV19:=Lib.hid (HV18.out.keep hb19)
             have HHZ19:=Lib.hid (HHZ18.out.keep hb19)
             have HBZ19:=Lib.hid (HBZ18.out.keep hb19)
             clear HB18 HU18 HV18 HHZ18 HBZ18
             clear hb19
             cases v with
             | true =>
               go_wp2_with fail
               go_ret
               exact⟨rfl,HB19.out⟩
             | false =>
               have z0:=HBZ19.out.cell (j:=0) rfl; have z1:=HBZ19.out.cell (j:=1) rfl; have z2:=HBZ19.out.cell (j:=2) rfl; have z3:=HBZ19.out.cell (j:=3) rfl; have z4:=HBZ19.out.cell (j:=4) rfl; have z5:=HBZ19.out.cell (j:=5) rfl; have z6:=HBZ19.out.cell (j:=6) rfl
               have y0:=HV19.out.cell (j:=0) rfl; have y1:=HV19.out.cell (j:=1) rfl; have y2:=HV19.out.cell (j:=2) rfl; have y3:=HV19.out.cell (j:=3) rfl; have y4:=HV19.out.cell (j:=4) rfl; have y5:=HV19.out.cell (j:=5) rfl; have y6:=HV19.out.cell (j:=6) rfl
               (try dsimp only at z0 z1 z2 z3 z4 z5 z6)
               have HL2:=Lib.hid (like14_same ⟨tm1,vt1,bs1,bt1,rs1,sn1,vs1⟩ ar16 nr16 cr16 av16 nv16 cv16 ar1 nr1 cr1 av1 nv1 cv1 w19 HHZ19.out (HM.out.keep HB19.out))
               unfold Hd.val at HL2
               dsimp only at HL2
               go_wp2_with fail
               refine HL2.out.mono ?_
               rintro e w20 ⟨rfl,hb20⟩
               dsimp only
               have HB20:=Lib.hid (below_then HB19.out hb20 HB19.out.size)
               clear z0 z1 z2 z3 z4 z5 z6 y0 y1 y2 y3 y4 y5 y6 HL2 hb20
               go_wp2_with fail
               go_ret
               exact⟨rfl,HB20.out⟩
           ·have hx0':(xe==0)=false:=by simpa using hx0
            have hx1':(xe==132)=false:=by simpa using hx1
            clear HEN
            have z0:=HBZ18.out.cell (j:=0) rfl; have z1:=HBZ18.out.cell (j:=1) rfl; have z2:=HBZ18.out.cell (j:=2) rfl; have z3:=HBZ18.out.cell (j:=3) rfl; have z4:=HBZ18.out.cell (j:=4) rfl; have z5:=HBZ18.out.cell (j:=5) rfl; have z6:=HBZ18.out.cell (j:=6) rfl
            have x0:=HU18.out.cell (j:=0) rfl; have x1:=HU18.out.cell (j:=1) rfl; have x2:=HU18.out.cell (j:=2) rfl; have x3:=HU18.out.cell (j:=3) rfl; have x4:=HU18.out.cell (j:=4) rfl; have x5:=HU18.out.cell (j:=5) rfl; have x6:=HU18.out.cell (j:=6) rfl
            (try dsimp only at z0 z1 z2 z3 z4 z5 z6)
            have HL2:=Lib.hid (like14_same ⟨tm,vt,bs,bt,rs,sn,vs⟩ ar16 nr16 cr16 av16 nv16 cv16 ar nr cr av nv cv w18 HHZ18.out (HN.out.keep HB18.out))
            unfold Hd.val at HL2
            dsimp only at HL2
            go_wp2_with fail
            refine HL2.out.mono ?_
            rintro e w19 ⟨rfl,hb19⟩
            dsimp only
            have HB19:=Lib.hid (below_then HB18.out hb19 HB18.out.size)
            clear z0 z1 z2 z3 z4 z5 z6 x0 x1 x2 x3 x4 x5 x6 HL2 hb19
            go_wp2_with fail
            go_ret
            exact⟨rfl,HB19.out⟩
end Go.Proofs.YtlpgbmaoenncjaaGreatDoor

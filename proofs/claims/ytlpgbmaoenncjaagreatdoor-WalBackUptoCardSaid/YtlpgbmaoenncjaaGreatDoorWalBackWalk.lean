/-
  The walk of the law WalBack: it returns true. (Written by wip/mkwya.py.)
-/
import Derived.Test.YtlpgbmaoenncjaaGreatDoorWoE
import Derived.Test.YtlpgbmaoenncjaaGreatDoorWyAll
namespace Go.Proofs.YtlpgbmaoenncjaaGreatDoor
open Go.RowKit
set_option linter.unusedVariables false
set_option maxRecDepth 100000
set_option maxHeartbeats 8000000 in
theorem walBack_walk (one:Hd) (ar:Option Addr) (nr cr:Nat) (av:Option Addr) (nv cv:Nat) (two:Hd) (ar1:Option Addr) (nr1 cr1:Nat) (av1:Option Addr) (nv1 cv1:Nat) (w:World) (H:HdAt w one ar nr cr av nv cv) (H1:HdAt w two ar1 nr1 cr1 av1 nv1 cv1) (htab:Lib.TabIs Tryz.prog w "internal/strconv.uint64pow10" .u64 Lib.pow10Tab) :
 Calls Tryz.prog 5 #[one.val ar nr cr av nv cv,two.val ar1 nr1 cr1 av1 nv1 cv1] w (fun e w'=>e = .returned (.bool true)∧Below w.heap.size w w'):=by
 have HT:=Lib.hid (Lib.tabBelow_of_tabIs htab)
 have HN:=Lib.hid H
 have HM:=Lib.hid H1
 obtain⟨r1,hr1⟩:∃ r,r=rightH one:=⟨_,rfl⟩
 obtain⟨r2,hr2⟩:∃ r,r=rightH two:=⟨_,rfl⟩
 have HS1:Hid (∀ W,Below w.heap.size w W→Calls Tryz.prog 18 #[one.val ar nr cr av nv cv] W fun e w'=>(∃ b,e = .returned (.bool b)∧(b=true→smallH one))∧Below W.heap.size W w'):=Lib.hid fun W hb=>small14_sum one ar nr cr av nv cv W (HN.out.keep hb)
 have HS2:Hid (∀ W,Below w.heap.size w W→Calls Tryz.prog 18 #[two.val ar1 nr1 cr1 av1 nv1 cv1] W fun e w'=>(∃ b,e = .returned (.bool b)∧(b=true→smallH two))∧Below W.heap.size W w'):=Lib.hid fun W hb=>small14_sum two ar1 nr1 cr1 av1 nv1 cv1 W (HM.out.keep hb)
 have HR1:Hid (∀ W,Below w.heap.size w W→Calls Tryz.prog 23 #[one.val ar nr cr av nv cv] W fun e w'=>e = .returned (.bool r1)∧Below W.heap.size W w'):=Lib.hid fun W hb=>wright_any one ar nr cr av nv cv W (HN.out.keep hb) (HT.out _ hb) r1 (Lib.hid hr1)
 have HR2:Hid (∀ W,Below w.heap.size w W→Calls Tryz.prog 23 #[two.val ar1 nr1 cr1 av1 nv1 cv1] W fun e w'=>e = .returned (.bool r2)∧Below W.heap.size W w'):=Lib.hid fun W hb=>wright_any two ar1 nr1 cr1 av1 nv1 cv1 W (HM.out.keep hb) (HT.out _ hb) r2 (Lib.hid hr2)
 have HAL:Hid (∀ W,Below w.heap.size w W→Calls Tryz.prog 21 #[] W fun e w'=>e = .returned (.bool true)∧Below W.heap.size W w'):=Lib.hid fun W hb=>alive14_any W (HT.out _ hb)
 have HRR:=Lib.hid (And.intro hr1 hr2)
 clear hr1 hr2 htab H H1
 obtain⟨tm,vt,bs,bt,rs,sn,vs⟩:=one
 obtain⟨tm1,vt1,bs1,bt1,rs1,sn1,vs1⟩:=two
 unfold Hd.val at *
 dsimp only at *
 have HB0:=Lib.hid (((Below.refl w.heap.size w).alloc (Nat.le_refl _) (.cells #[.int .i64 tm,.int .i64 vt,.int .i64 bs,.int .i64 bt,.slice ar nr cr,.string sn,.slice av nv cv] 42)).alloc (by simp) (.cells #[.int .i64 tm1,.int .i64 vt1,.int .i64 bs1,.int .i64 bt1,.slice ar1 nr1 cr1,.string sn1,.slice av1 nv1 cv1] 42))
 have HU0:Hid (Blk ((w.alloc (.cells #[.int .i64 tm,.int .i64 vt,.int .i64 bs,.int .i64 bt,.slice ar nr cr,.string sn,.slice av nv cv] 42)).alloc (.cells #[.int .i64 tm1,.int .i64 vt1,.int .i64 bs1,.int .i64 bt1,.slice ar1 nr1 cr1,.string sn1,.slice av1 nv1 cv1] 42)) w.heap.size 42 [.int .i64 tm,.int .i64 vt,.int .i64 bs,.int .i64 bt,.slice ar nr cr,.string sn,.slice av nv cv]):=Lib.hid (Blk.both w (.cells #[.int .i64 tm,.int .i64 vt,.int .i64 bs,.int .i64 bt,.slice ar nr cr,.string sn,.slice av nv cv] 42) (.cells #[.int .i64 tm1,.int .i64 vt1,.int .i64 bs1,.int .i64 bt1,.slice ar1 nr1 cr1,.string sn1,.slice av1 nv1 cv1] 42) 42 42 [.int .i64 tm,.int .i64 vt,.int .i64 bs,.int .i64 bt,.slice ar nr cr,.string sn,.slice av nv cv] [.int .i64 tm1,.int .i64 vt1,.int .i64 bs1,.int .i64 bt1,.slice ar1 nr1 cr1,.string sn1,.slice av1 nv1 cv1] rfl rfl).1
 have HV0:Hid (Blk ((w.alloc (.cells #[.int .i64 tm,.int .i64 vt,.int .i64 bs,.int .i64 bt,.slice ar nr cr,.string sn,.slice av nv cv] 42)).alloc (.cells #[.int .i64 tm1,.int .i64 vt1,.int .i64 bs1,.int .i64 bt1,.slice ar1 nr1 cr1,.string sn1,.slice av1 nv1 cv1] 42)) (w.heap.size+1) 42 [.int .i64 tm1,.int .i64 vt1,.int .i64 bs1,.int .i64 bt1,.slice ar1 nr1 cr1,.string sn1,.slice av1 nv1 cv1]):=Lib.hid (Blk.both w (.cells #[.int .i64 tm,.int .i64 vt,.int .i64 bs,.int .i64 bt,.slice ar nr cr,.string sn,.slice av nv cv] 42) (.cells #[.int .i64 tm1,.int .i64 vt1,.int .i64 bs1,.int .i64 bt1,.slice ar1 nr1 cr1,.string sn1,.slice av1 nv1 cv1] 42) 42 42 [.int .i64 tm,.int .i64 vt,.int .i64 bs,.int .i64 bt,.slice ar nr cr,.string sn,.slice av nv cv] [.int .i64 tm1,.int .i64 vt1,.int .i64 bs1,.int .i64 bt1,.slice ar1 nr1 cr1,.string sn1,.slice av1 nv1 cv1] rfl rfl).2
 have x0:=HU0.out.cell (j:=0) rfl; have x1:=HU0.out.cell (j:=1) rfl; have x2:=HU0.out.cell (j:=2) rfl; have x3:=HU0.out.cell (j:=3) rfl; have x4:=HU0.out.cell (j:=4) rfl; have x5:=HU0.out.cell (j:=5) rfl; have x6:=HU0.out.cell (j:=6) rfl
 go_enter Tryz.func5,Tryz.ntmps5
 go_upto_region 1 with fail
 generalize ((w.alloc (.cells #[.int .i64 tm,.int .i64 vt,.int .i64 bs,.int .i64 bt,.slice ar nr cr,.string sn,.slice av nv cv] 42)).alloc (.cells #[.int .i64 tm1,.int .i64 vt1,.int .i64 bs1,.int .i64 bt1,.slice ar1 nr1 cr1,.string sn1,.slice av1 nv1 cv1] 42))=w0 at *
 go_wp2_with fail
 refine (HS1.out _ HB0.out).mono ?_
 rintro e w1 ⟨⟨b,rfl,hsm⟩,hb1⟩
 dsimp only
 have HB1:=Lib.hid (below_then HB0.out hb1 HB0.out.size)
 have HU1:=Lib.hid (HU0.out.keep hb1)
 have HV1:=Lib.hid (HV0.out.keep hb1)
 clear x0 x1 x2 x3 x4 x5 x6 HS1 hb1
 clear HB0 HU0 HV0
 have HSA:=Lib.hid hsm
 clear hsm
 cases b with
 | false =>
   go_wp2_with fail
   refine (HAL.out _ HB1.out).mono ?_
   rintro e w2 ⟨rfl,hb2⟩
   dsimp only
   have HB2:=Lib.hid (below_then HB1.out hb2 HB1.out.size)
   go_wp2_with fail
   go_ret
   exact⟨rfl,HB2.out⟩
 | true =>
   have y0:=HV1.out.cell (j:=0) rfl; have y1:=HV1.out.cell (j:=1) rfl; have y2:=HV1.out.cell (j:=2) rfl; have y3:=HV1.out.cell (j:=3) rfl; have y4:=HV1.out.cell (j:=4) rfl; have y5:=HV1.out.cell (j:=5) rfl; have y6:=HV1.out.cell (j:=6) rfl
   go_wp2_with fail
   refine (HS2.out _ HB1.out).mono ?_
   rintro e w2 ⟨⟨b,rfl,hsm⟩,hb2⟩
   dsimp only
   have HB2:=Lib.hid (below_then HB1.out hb2 HB1.out.size)
   have HU2:=Lib.hid (HU1.out.keep hb2)
   have HV2:=Lib.hid (HV1.out.keep hb2)
   clear y0 y1 y2 y3 y4 y5 y6 HS2 hb2
   clear HB1 HU1 HV1
   have HSB:=Lib.hid hsm
   clear hsm
   cases b with
   | false =>
     go_wp2_with fail
     refine (HAL.out _ HB2.out).mono ?_
     rintro e w3 ⟨rfl,hb3⟩
     dsimp only
     have HB3:=Lib.hid (below_then HB2.out hb3 HB2.out.size)
     go_wp2_with fail
     go_ret
     exact⟨rfl,HB3.out⟩
   | true =>
     have x0:=HU2.out.cell (j:=0) rfl; have x1:=HU2.out.cell (j:=1) rfl; have x2:=HU2.out.cell (j:=2) rfl; have x3:=HU2.out.cell (j:=3) rfl; have x4:=HU2.out.cell (j:=4) rfl; have x5:=HU2.out.cell (j:=5) rfl; have x6:=HU2.out.cell (j:=6) rfl
     go_wp2_with fail
     refine (HR1.out _ HB2.out).mono ?_
     rintro e w3 ⟨rfl,hb3⟩
     dsimp only
     have HB3:=Lib.hid (below_then HB2.out hb3 HB2.out.size)
     have HU3:=Lib.hid (HU2.out.keep hb3)
     have HV3:=Lib.hid (HV2.out.keep hb3)
     clear x0 x1 x2 x3 x4 x5 x6 HR1 hb3
     clear HB2 HU2 HV2
     cases r1 with
     | false =>
       go_wp2_with fail
       refine (HAL.out _ HB3.out).mono ?_
       rintro e w4 ⟨rfl,hb4⟩
       dsimp only
       have HB4:=Lib.hid (below_then HB3.out hb4 HB3.out.size)
       go_wp2_with fail
       go_ret
       exact⟨rfl,HB4.out⟩
     | true =>
       have y0:=HV3.out.cell (j:=0) rfl; have y1:=HV3.out.cell (j:=1) rfl; have y2:=HV3.out.cell (j:=2) rfl; have y3:=HV3.out.cell (j:=3) rfl; have y4:=HV3.out.cell (j:=4) rfl; have y5:=HV3.out.cell (j:=5) rfl; have y6:=HV3.out.cell (j:=6) rfl
       go_wp2_with fail
       refine (HR2.out _ HB3.out).mono ?_
       rintro e w4 ⟨rfl,hb4⟩
       dsimp only
       have HB4:=Lib.hid (below_then HB3.out hb4 HB3.out.size)
       have HU4:=Lib.hid (HU3.out.keep hb4)
       have HV4:=Lib.hid (HV3.out.keep hb4)
       clear y0 y1 y2 y3 y4 y5 y6 HR2 hb4
       clear HB3 HU3 HV3
       cases r2 with
       | false =>
         go_wp2_with fail
         refine (HAL.out _ HB4.out).mono ?_
         rintro e w5 ⟨rfl,hb5⟩
         dsimp only
         have HB5:=Lib.hid (below_then HB4.out hb5 HB4.out.size)
         go_wp2_with fail
         go_ret
         exact⟨rfl,HB5.out⟩
       | true =>
         have HX:=Lib.hid (back_two rightH_zero HRR.out.1.symm HRR.out.2.symm (HSA.out (by trivial)) (HSB.out (by trivial)))
         obtain⟨⟨Ar,Af,Al,Ad⟩,⟨Cr,Cf,Cl,Cd⟩,ha1,ha2,ha3,ha4,ha5,⟨Er,Ef,El,Ed⟩,ha6⟩:=HX.out
         have HSV:Hid (∀ W,Below w.heap.size w W→Calls Tryz.prog 19 #[.agg #[.int .i64 1048576,.slice none 0 0,.int .i64 (-1),.bool false],.agg #[.int .i64 0,.int .i64 0,.int .i64 0,.int .i64 0,.slice none 0 0,.string ⟨#[]⟩,.slice none 0 0],.agg #[.int .i64 tm,.int .i64 vt,.int .i64 bs,.int .i64 bt,.slice ar nr cr,.string sn,.slice av nv cv]] W (RetDk W (⟨Ar,Af,Al,Ad⟩,0))):=Lib.hid fun W hb=>by rw [← ha1]; exact wsave_all none 0 0 freshD Hd.zero ⟨tm,vt,bs,bt,rs,sn,vs⟩ none 0 0 none 0 0 ar nr cr av nv cv W fresh_at (hdAt_zero W) (HN.out.keep hb) (HT.out _ hb)
         have HSZ:=Lib.hid (And.intro ha2 ha5)
         have HO1:=Lib.hid ha3
         have HO2:=Lib.hid ha6
         have HS4:=Lib.hid ha4
         have HPT:=Lib.hid (rightH_put HRR.out.2.symm)
         have HPZ:=Lib.hid (putH_size HRR.out.2.symm)
         obtain⟨S,hS⟩:∃ S,S=(putH ⟨tm1,vt1,bs1,bt1,rs1,sn1,vs1⟩).1:=⟨_,rfl⟩
         have HPU:Hid ((S,(0:Int))=putH ⟨tm1,vt1,bs1,bt1,rs1,sn1,vs1⟩):=Lib.hid (by rw [hS]; exact HPT.out.symm)
         have HPS:Hid (S.size≤131072):=Lib.hid (by rw [hS]; exact HPZ.out)
         have HGT:Hid (getH S=(⟨tm1,vt1,bs1,bt1,rs1,sn1,vs1⟩,0)):=Lib.hid (putH_got HPU.out.symm).1
         clear hS HPT HPZ
         clear ha1 ha2 ha3 ha4 ha5 ha6 HX HRR HSA HSB
         go_upto_region 4 with fail
         have hb5:Below w4.heap.size w4 (w4.alloc (.cells #[.int .i64 1048576,.slice none 0 0,.int .i64 (-1),.bool false] 38)):=(Below.refl _ w4).alloc (Nat.le_refl _) _
         have HB5:=Lib.hid (below_then HB4.out hb5 HB4.out.size)
         have HU5:=Lib.hid (HU4.out.keep hb5)
         have HV5:=Lib.hid (HV4.out.keep hb5)
         have HF5:Hid (DkBox (w4.alloc (.cells #[.int .i64 1048576,.slice none 0 0,.int .i64 (-1),.bool false] 38)) w4.heap.size freshD none 0 0):=Lib.hid (DkBox.new w4 freshD none 0 0)
         clear HB4 HU4 HV4
         clear hb5
         generalize w4.alloc (.cells #[.int .i64 1048576,.slice none 0 0,.int .i64 (-1),.bool false] 38)=w5 at *
         generalize w4.heap.size=s5 at *
         have q0:=HF5.out.c0; have q1:=HF5.out.c1; have q2:=HF5.out.c2; have q3:=HF5.out.c3
         unfold freshD at q0 q1 q2 q3
         dsimp only at q0 q1 q2 q3
         have x0:=HU5.out.cell (j:=0) rfl; have x1:=HU5.out.cell (j:=1) rfl; have x2:=HU5.out.cell (j:=2) rfl; have x3:=HU5.out.cell (j:=3) rfl; have x4:=HU5.out.cell (j:=4) rfl; have x5:=HU5.out.cell (j:=5) rfl; have x6:=HU5.out.cell (j:=6) rfl
         go_wp2_with fail
         refine (HSV.out _ HB5.out).mono ?_
         rintro e w6 ⟨a6,n6,c6,rfl,hd6,hb6⟩
         unfold Dk.val
         dsimp only at hd6 ⊢
         clear q0 q1 q2 q3 x0 x1 x2 x3 x4 x5 x6 HF5 HSV
         have HB6:=Lib.hid (below_then HB5.out hb6 HB5.out.size)
         have HU6:=Lib.hid (HU5.out.keep hb6)
         have HV6:=Lib.hid (HV5.out.keep hb6)
         clear HB5 HU5 HV5
         clear hb6
         have hb7:Below w6.heap.size w6 (w6.alloc (.cells #[.int .i64 Ar,.slice a6 n6 c6,.int .i64 Al,.bool Ad] 38)):=(Below.refl _ w6).alloc (Nat.le_refl _) _
         have HB7:=Lib.hid (below_then HB6.out hb7 HB6.out.size)
         have HU7:=Lib.hid (HU6.out.keep hb7)
         have HV7:=Lib.hid (HV6.out.keep hb7)
         clear HB6 HU6 HV6
         have HDA7:=Lib.hid (hd6.keep hb7)
         have HBA7:Hid (DkBox (w6.alloc (.cells #[.int .i64 Ar,.slice a6 n6 c6,.int .i64 Al,.bool Ad] 38)) w6.heap.size ⟨Ar,Af,Al,Ad⟩ a6 n6 c6):=Lib.hid (DkBox.new w6 ⟨Ar,Af,Al,Ad⟩ a6 n6 c6)
         clear hd6 hb7
         go_upto_region 5 with fail
         generalize w6.alloc (.cells #[.int .i64 Ar,.slice a6 n6 c6,.int .i64 Al,.bool Ad] 38)=w7 at *
         generalize w6.heap.size=s7 at *
         have HOP:=Lib.hid (wopen_any a6 n6 c6 ⟨Ar,Af,Al,Ad⟩ w7 HDA7.out HSZ.out.1 (HT.out _ HB7.out) ⟨⟨Ar,Af,Al,Ad⟩,⟨tm,vt,bs,bt,rs,sn,vs⟩,0⟩ (Lib.hid HO1.out.symm))
         unfold OpenP Dk.val Hd.val at HOP
         dsimp only at HOP
         have q0:=HBA7.out.c0; have q1:=HBA7.out.c1; have q2:=HBA7.out.c2; have q3:=HBA7.out.c3
         dsimp only at q0 q1 q2 q3
         go_wp2_with fail
         refine HOP.out.mono ?_
         rintro e w8 ⟨a8,n8,c8,ar8,nr8,cr8,av8,nv8,cv8,rfl,hd8,hh8,hb8,-⟩
         dsimp only
         clear q0 q1 q2 q3 HOP HO1 HBA7 HDA7
         have HB8:=Lib.hid (below_then HB7.out hb8 HB7.out.size)
         have HU8:=Lib.hid (HU7.out.keep hb8)
         have HV8:=Lib.hid (HV7.out.keep hb8)
         clear HB7 HU7 HV7
         clear hb8
         go_upto_region 6 with fail
         have hb9:Below w8.heap.size w8 ((w8.alloc (.cells #[.int .i64 Ar,.slice a8 n8 c8,.int .i64 Al,.bool Ad] 38)).alloc (.cells #[.int .i64 tm,.int .i64 vt,.int .i64 bs,.int .i64 bt,.slice ar8 nr8 cr8,.string sn,.slice av8 nv8 cv8] 42)):=((Below.refl _ w8).alloc (Nat.le_refl _) _).alloc (by simp) _
         have HB9:=Lib.hid (below_then HB8.out hb9 HB8.out.size)
         have HU9:=Lib.hid (HU8.out.keep hb9)
         have HV9:=Lib.hid (HV8.out.keep hb9)
         clear HB8 HU8 HV8
         have HDA9:=Lib.hid (hd8.keep hb9)
         have HHA9:=Lib.hid (hh8.keep hb9)
         have HBA9:Hid (DkBox ((w8.alloc (.cells #[.int .i64 Ar,.slice a8 n8 c8,.int .i64 Al,.bool Ad] 38)).alloc (.cells #[.int .i64 tm,.int .i64 vt,.int .i64 bs,.int .i64 bt,.slice ar8 nr8 cr8,.string sn,.slice av8 nv8 cv8] 42)) w8.heap.size ⟨Ar,Af,Al,Ad⟩ a8 n8 c8):=Lib.hid (Four.alloc (DkBox.new w8 ⟨Ar,Af,Al,Ad⟩ a8 n8 c8) _)
         have HBH9:Hid (Blk ((w8.alloc (.cells #[.int .i64 Ar,.slice a8 n8 c8,.int .i64 Al,.bool Ad] 38)).alloc (.cells #[.int .i64 tm,.int .i64 vt,.int .i64 bs,.int .i64 bt,.slice ar8 nr8 cr8,.string sn,.slice av8 nv8 cv8] 42)) (w8.heap.size+1) 42 [.int .i64 tm,.int .i64 vt,.int .i64 bs,.int .i64 bt,.slice ar8 nr8 cr8,.string sn,.slice av8 nv8 cv8]):=Lib.hid (Blk.both w8 (.cells #[.int .i64 Ar,.slice a8 n8 c8,.int .i64 Al,.bool Ad] 38) (.cells #[.int .i64 tm,.int .i64 vt,.int .i64 bs,.int .i64 bt,.slice ar8 nr8 cr8,.string sn,.slice av8 nv8 cv8] 42) 38 42 [.int .i64 Ar,.slice a8 n8 c8,.int .i64 Al,.bool Ad] [.int .i64 tm,.int .i64 vt,.int .i64 bs,.int .i64 bt,.slice ar8 nr8 cr8,.string sn,.slice av8 nv8 cv8] rfl rfl).2
         clear hd8 hh8 hb9
         generalize ((w8.alloc (.cells #[.int .i64 Ar,.slice a8 n8 c8,.int .i64 Al,.bool Ad] 38)).alloc (.cells #[.int .i64 tm,.int .i64 vt,.int .i64 bs,.int .i64 bt,.slice ar8 nr8 cr8,.string sn,.slice av8 nv8 cv8] 42))=w9 at *
         generalize w8.heap.size=s9 at *
         have HSV:=Lib.hid (wsave_all a8 n8 c8 ⟨Ar,Af,Al,Ad⟩ ⟨tm,vt,bs,bt,rs,sn,vs⟩ ⟨tm1,vt1,bs1,bt1,rs1,sn1,vs1⟩ ar8 nr8 cr8 av8 nv8 cv8 ar1 nr1 cr1 av1 nv1 cv1 w9 HDA9.out HHA9.out (HM.out.keep HB9.out) (HT.out _ HB9.out))
         rw [HS4.out] at HSV
         unfold Dk.val Hd.val at HSV
         dsimp only at HSV
         have q0:=HBA9.out.c0; have q1:=HBA9.out.c1; have q2:=HBA9.out.c2; have q3:=HBA9.out.c3
         dsimp only at q0 q1 q2 q3
         have x0:=HBH9.out.cell (j:=0) rfl; have x1:=HBH9.out.cell (j:=1) rfl; have x2:=HBH9.out.cell (j:=2) rfl; have x3:=HBH9.out.cell (j:=3) rfl; have x4:=HBH9.out.cell (j:=4) rfl; have x5:=HBH9.out.cell (j:=5) rfl; have x6:=HBH9.out.cell (j:=6) rfl
         have y0:=HV9.out.cell (j:=0) rfl; have y1:=HV9.out.cell (j:=1) rfl; have y2:=HV9.out.cell (j:=2) rfl; have y3:=HV9.out.cell (j:=3) rfl; have y4:=HV9.out.cell (j:=4) rfl; have y5:=HV9.out.cell (j:=5) rfl; have y6:=HV9.out.cell (j:=6) rfl
         go_wp2_with fail
         refine HSV.out.mono ?_
         rintro e w10 ⟨a10,n10,c10,rfl,hd10,hb10⟩
         unfold Dk.val
         dsimp only at hd10 ⊢
         clear q0 q1 q2 q3 x0 x1 x2 x3 x4 x5 x6 y0 y1 y2 y3 y4 y5 y6 HSV HBA9 HDA9 HS4
         have HB10:=Lib.hid (below_then HB9.out hb10 HB9.out.size)
         have HU10:=Lib.hid (HU9.out.keep hb10)
         have HV10:=Lib.hid (HV9.out.keep hb10)
         have HHA10:=Lib.hid (HHA9.out.keep hb10)
         have HBH10:=Lib.hid (HBH9.out.keep hb10)
         clear HB9 HU9 HV9 HHA9 HBH9
         clear hb10
         have hb11:Below w10.heap.size w10 (w10.alloc (.cells #[.int .i64 Cr,.slice a10 n10 c10,.int .i64 Cl,.bool Cd] 38)):=(Below.refl _ w10).alloc (Nat.le_refl _) _
         have HB11:=Lib.hid (below_then HB10.out hb11 HB10.out.size)
         have HU11:=Lib.hid (HU10.out.keep hb11)
         have HV11:=Lib.hid (HV10.out.keep hb11)
         have HHA11:=Lib.hid (HHA10.out.keep hb11)
         have HBH11:=Lib.hid (HBH10.out.keep hb11)
         clear HB10 HU10 HV10 HHA10 HBH10
         have HDC11:=Lib.hid (hd10.keep hb11)
         have HBC11:Hid (DkBox (w10.alloc (.cells #[.int .i64 Cr,.slice a10 n10 c10,.int .i64 Cl,.bool Cd] 38)) w10.heap.size ⟨Cr,Cf,Cl,Cd⟩ a10 n10 c10):=Lib.hid (DkBox.new w10 ⟨Cr,Cf,Cl,Cd⟩ a10 n10 c10)
         clear hd10 hb11
         go_upto_region 7 with fail
         generalize w10.alloc (.cells #[.int .i64 Cr,.slice a10 n10 c10,.int .i64 Cl,.bool Cd] 38)=w11 at *
         generalize w10.heap.size=s11 at *
         have HOP:=Lib.hid (wopen_any a10 n10 c10 ⟨Cr,Cf,Cl,Cd⟩ w11 HDC11.out HSZ.out.2 (HT.out _ HB11.out) ⟨⟨Er,Ef,El,Ed⟩,⟨tm1,vt1,bs1,bt1,rs1,sn1,vs1⟩,0⟩ (Lib.hid HO2.out.symm))
         unfold OpenP Dk.val Hd.val at HOP
         dsimp only at HOP
         have q0:=HBC11.out.c0; have q1:=HBC11.out.c1; have q2:=HBC11.out.c2; have q3:=HBC11.out.c3
         dsimp only at q0 q1 q2 q3
         go_wp2_with fail
         refine HOP.out.mono ?_
         rintro e w12 ⟨a12,n12,c12,ar12,nr12,cr12,av12,nv12,cv12,rfl,hd12,hh12,hb12,-⟩
         dsimp only
         clear q0 q1 q2 q3 HOP HO2 HBC11 HDC11 HSZ hd12
         have HB12:=Lib.hid (below_then HB11.out hb12 HB11.out.size)
         have HU12:=Lib.hid (HU11.out.keep hb12)
         have HV12:=Lib.hid (HV11.out.keep hb12)
         have HHA12:=Lib.hid (HHA11.out.keep hb12)
         have HBH12:=Lib.hid (HBH11.out.keep hb12)
         clear HB11 HU11 HV11 HHA11 HBH11
         clear hb12
         have hb13:Below w12.heap.size w12 ((w12.alloc (.cells #[.int .i64 Er,.slice a12 n12 c12,.int .i64 El,.bool Ed] 38)).alloc (.cells #[.int .i64 tm1,.int .i64 vt1,.int .i64 bs1,.int .i64 bt1,.slice ar12 nr12 cr12,.string sn1,.slice av12 nv12 cv12] 42)):=((Below.refl _ w12).alloc (Nat.le_refl _) _).alloc (by simp) _
         have HB13:=Lib.hid (below_then HB12.out hb13 HB12.out.size)
         have HU13:=Lib.hid (HU12.out.keep hb13)
         have HV13:=Lib.hid (HV12.out.keep hb13)
         have HHA13:=Lib.hid (HHA12.out.keep hb13)
         have HBH13:=Lib.hid (HBH12.out.keep hb13)
         clear HB12 HU12 HV12 HHA12 HBH12
         have HHK13:=Lib.hid (hh12.keep hb13)
         have HBK13:Hid (Blk ((w12.alloc (.cells #[.int .i64 Er,.slice a12 n12 c12,.int .i64 El,.bool Ed] 38)).alloc (.cells #[.int .i64 tm1,.int .i64 vt1,.int .i64 bs1,.int .i64 bt1,.slice ar12 nr12 cr12,.string sn1,.slice av12 nv12 cv12] 42)) (w12.heap.size+1) 42 [.int .i64 tm1,.int .i64 vt1,.int .i64 bs1,.int .i64 bt1,.slice ar12 nr12 cr12,.string sn1,.slice av12 nv12 cv12]):=Lib.hid (Blk.both w12 (.cells #[.int .i64 Er,.slice a12 n12 c12,.int .i64 El,.bool Ed] 38) (.cells #[.int .i64 tm1,.int .i64 vt1,.int .i64 bs1,.int .i64 bt1,.slice ar12 nr12 cr12,.string sn1,.slice av12 nv12 cv12] 42) 38 42 [.int .i64 Er,.slice a12 n12 c12,.int .i64 El,.bool Ed] [.int .i64 tm1,.int .i64 vt1,.int .i64 bs1,.int .i64 bt1,.slice ar12 nr12 cr12,.string sn1,.slice av12 nv12 cv12] rfl rfl).2
         clear hh12 hb13
         go_upto_region 8 with fail
         generalize ((w12.alloc (.cells #[.int .i64 Er,.slice a12 n12 c12,.int .i64 El,.bool Ed] 38)).alloc (.cells #[.int .i64 tm1,.int .i64 vt1,.int .i64 bs1,.int .i64 bt1,.slice ar12 nr12 cr12,.string sn1,.slice av12 nv12 cv12] 42))=w13 at *
         generalize w12.heap.size=s13 at *
         have HPC:=Lib.hid (wput_any ⟨tm1,vt1,bs1,bt1,rs1,sn1,vs1⟩ ar1 nr1 cr1 av1 nv1 cv1 w13 (HM.out.keep HB13.out) (HT.out _ HB13.out) (S,0) HPU)
         unfold Hd.val at HPC
         dsimp only at HPC
         have y0:=HV13.out.cell (j:=0) rfl; have y1:=HV13.out.cell (j:=1) rfl; have y2:=HV13.out.cell (j:=2) rfl; have y3:=HV13.out.cell (j:=3) rfl; have y4:=HV13.out.cell (j:=4) rfl; have y5:=HV13.out.cell (j:=5) rfl; have y6:=HV13.out.cell (j:=6) rfl
         go_wp2_with fail
         refine HPC.out.mono ?_
         rintro e w14 ⟨rfl,hb14⟩
         dsimp only
         clear y0 y1 y2 y3 y4 y5 y6 HPC HPU
         have HB14:=Lib.hid (below_then HB13.out hb14 HB13.out.size)
         have HU14:=Lib.hid (HU13.out.keep hb14)
         have HV14:=Lib.hid (HV13.out.keep hb14)
         have HHA14:=Lib.hid (HHA13.out.keep hb14)
         have HBH14:=Lib.hid (HBH13.out.keep hb14)
         have HHK14:=Lib.hid (HHK13.out.keep hb14)
         have HBK14:=Lib.hid (HBK13.out.keep hb14)
         clear HB13 HU13 HV13 HHA13 HBH13 HHK13 HBK13
         clear hb14
         have HGC:=Lib.hid (wget_any S w14 (by have:=HPS.out; omega) (HT.out _ HB14.out))
         rw [HGT.out] at HGC
         clear HGT HPS
         go_wp2_with fail
         refine HGC.out.mono ?_
         rintro e w15 ⟨ar15,nr15,cr15,av15,nv15,cv15,rfl,hh15,hb15,-,-⟩
         unfold Hd.val
         dsimp only at hh15 ⊢
         clear HGC
         have HB15:=Lib.hid (below_then HB14.out hb15 HB14.out.size)
         have HU15:=Lib.hid (HU14.out.keep hb15)
         have HV15:=Lib.hid (HV14.out.keep hb15)
         have HHA15:=Lib.hid (HHA14.out.keep hb15)
         have HBH15:=Lib.hid (HBH14.out.keep hb15)
         have HHK15:=Lib.hid (HHK14.out.keep hb15)
         have HBK15:=Lib.hid (HBK14.out.keep hb15)
         clear HB14 HU14 HV14 HHA14 HBH14 HHK14 HBK14
         clear hb15
         have hb16:Below w15.heap.size w15 (w15.alloc (.cells #[.int .i64 tm1,.int .i64 vt1,.int .i64 bs1,.int .i64 bt1,.slice ar15 nr15 cr15,.string sn1,.slice av15 nv15 cv15] 42)):=(Below.refl _ w15).alloc (Nat.le_refl _) _
         have HB16:=Lib.hid (below_then HB15.out hb16 HB15.out.size)
         have HU16:=Lib.hid (HU15.out.keep hb16)
         have HV16:=Lib.hid (HV15.out.keep hb16)
         have HHA16:=Lib.hid (HHA15.out.keep hb16)
         have HBH16:=Lib.hid (HBH15.out.keep hb16)
         have HHK16:=Lib.hid (HHK15.out.keep hb16)
         have HBK16:=Lib.hid (HBK15.out.keep hb16)
         clear HB15 HU15 HV15 HHA15 HBH15 HHK15 HBK15
         have HHM16:=Lib.hid (hh15.keep hb16)
         have HBM16:Hid (Blk (w15.alloc (.cells #[.int .i64 tm1,.int .i64 vt1,.int .i64 bs1,.int .i64 bt1,.slice ar15 nr15 cr15,.string sn1,.slice av15 nv15 cv15] 42)) w15.heap.size 42 [.int .i64 tm1,.int .i64 vt1,.int .i64 bs1,.int .i64 bt1,.slice ar15 nr15 cr15,.string sn1,.slice av15 nv15 cv15]):=Lib.hid (heap_alloc_new w15 _)
         clear hh15 hb16
         go_upto_region 10 with fail
         generalize (w15.alloc (.cells #[.int .i64 tm1,.int .i64 vt1,.int .i64 bs1,.int .i64 bt1,.slice ar15 nr15 cr15,.string sn1,.slice av15 nv15 cv15] 42))=w16 at *
         generalize w15.heap.size=s16 at *
         go_wp2_with fail
         refine (HAL.out _ HB16.out).mono ?_
         rintro e w17 ⟨rfl,hb17⟩
         dsimp only
         have HB17:=Lib.hid (below_then HB16.out hb17 HB16.out.size)
         have HU17:=Lib.hid (HU16.out.keep hb17)
         have HV17:=Lib.hid (HV16.out.keep hb17)
         have HHA17:=Lib.hid (HHA16.out.keep hb17)
         have HBH17:=Lib.hid (HBH16.out.keep hb17)
         have HHK17:=Lib.hid (HHK16.out.keep hb17)
         have HBK17:=Lib.hid (HBK16.out.keep hb17)
         have HHM17:=Lib.hid (HHM16.out.keep hb17)
         have HBM17:=Lib.hid (HBM16.out.keep hb17)
         clear HB16 HU16 HV16 HHA16 HBH16 HHK16 HBK16 HHM16 HBM16
         clear hb17 HAL
         have x0:=HBH17.out.cell (j:=0) rfl; have x1:=HBH17.out.cell (j:=1) rfl; have x2:=HBH17.out.cell (j:=2) rfl; have x3:=HBH17.out.cell (j:=3) rfl; have x4:=HBH17.out.cell (j:=4) rfl; have x5:=HBH17.out.cell (j:=5) rfl; have x6:=HBH17.out.cell (j:=6) rfl
         have y0:=HU17.out.cell (j:=0) rfl; have y1:=HU17.out.cell (j:=1) rfl; have y2:=HU17.out.cell (j:=2) rfl; have y3:=HU17.out.cell (j:=3) rfl; have y4:=HU17.out.cell (j:=4) rfl; have y5:=HU17.out.cell (j:=5) rfl; have y6:=HU17.out.cell (j:=6) rfl
         have HL1:=Lib.hid (like14_same ⟨tm,vt,bs,bt,rs,sn,vs⟩ ar8 nr8 cr8 av8 nv8 cv8 ar nr cr av nv cv w17 HHA17.out (HN.out.keep HB17.out))
         unfold Hd.val at HL1
         dsimp only at HL1
         go_wp2_with fail
         refine HL1.out.mono ?_
         rintro e w18 ⟨rfl,hb18⟩
         dsimp only
         clear x0 x1 x2 x3 x4 x5 x6 y0 y1 y2 y3 y4 y5 y6 HL1
         have HB18:=Lib.hid (below_then HB17.out hb18 HB17.out.size)
         have HU18:=Lib.hid (HU17.out.keep hb18)
         have HV18:=Lib.hid (HV17.out.keep hb18)
         have HHA18:=Lib.hid (HHA17.out.keep hb18)
         have HBH18:=Lib.hid (HBH17.out.keep hb18)
         have HHK18:=Lib.hid (HHK17.out.keep hb18)
         have HBK18:=Lib.hid (HBK17.out.keep hb18)
         have HHM18:=Lib.hid (HHM17.out.keep hb18)
         have HBM18:=Lib.hid (HBM17.out.keep hb18)
         clear HB17 HU17 HV17 HHA17 HBH17 HHK17 HBK17 HHM17 HBM17
         clear hb18
         have x0:=HBK18.out.cell (j:=0) rfl; have x1:=HBK18.out.cell (j:=1) rfl; have x2:=HBK18.out.cell (j:=2) rfl; have x3:=HBK18.out.cell (j:=3) rfl; have x4:=HBK18.out.cell (j:=4) rfl; have x5:=HBK18.out.cell (j:=5) rfl; have x6:=HBK18.out.cell (j:=6) rfl
         have y0:=HV18.out.cell (j:=0) rfl; have y1:=HV18.out.cell (j:=1) rfl; have y2:=HV18.out.cell (j:=2) rfl; have y3:=HV18.out.cell (j:=3) rfl; have y4:=HV18.out.cell (j:=4) rfl; have y5:=HV18.out.cell (j:=5) rfl; have y6:=HV18.out.cell (j:=6) rfl
         have HL1:=Lib.hid (like14_same ⟨tm1,vt1,bs1,bt1,rs1,sn1,vs1⟩ ar12 nr12 cr12 av12 nv12 cv12 ar1 nr1 cr1 av1 nv1 cv1 w18 HHK18.out (HM.out.keep HB18.out))
         unfold Hd.val at HL1
         dsimp only at HL1
         go_wp2_with fail
         refine HL1.out.mono ?_
         rintro e w19 ⟨rfl,hb19⟩
         dsimp only
         clear x0 x1 x2 x3 x4 x5 x6 y0 y1 y2 y3 y4 y5 y6 HL1
         have HB19:=Lib.hid (below_then HB18.out hb19 HB18.out.size)
         have HU19:=Lib.hid (HU18.out.keep hb19)
         have HV19:=Lib.hid (HV18.out.keep hb19)
         have HHA19:=Lib.hid (HHA18.out.keep hb19)
         have HBH19:=Lib.hid (HBH18.out.keep hb19)
         have HHK19:=Lib.hid (HHK18.out.keep hb19)
         have HBK19:=Lib.hid (HBK18.out.keep hb19)
         have HHM19:=Lib.hid (HHM18.out.keep hb19)
         have HBM19:=Lib.hid (HBM18.out.keep hb19)
         clear HB18 HU18 HV18 HHA18 HBH18 HHK18 HBK18 HHM18 HBM18
         clear hb19
         have x0:=HBM19.out.cell (j:=0) rfl; have x1:=HBM19.out.cell (j:=1) rfl; have x2:=HBM19.out.cell (j:=2) rfl; have x3:=HBM19.out.cell (j:=3) rfl; have x4:=HBM19.out.cell (j:=4) rfl; have x5:=HBM19.out.cell (j:=5) rfl; have x6:=HBM19.out.cell (j:=6) rfl
         have y0:=HV19.out.cell (j:=0) rfl; have y1:=HV19.out.cell (j:=1) rfl; have y2:=HV19.out.cell (j:=2) rfl; have y3:=HV19.out.cell (j:=3) rfl; have y4:=HV19.out.cell (j:=4) rfl; have y5:=HV19.out.cell (j:=5) rfl; have y6:=HV19.out.cell (j:=6) rfl
         have HL1:=Lib.hid (like14_same ⟨tm1,vt1,bs1,bt1,rs1,sn1,vs1⟩ ar15 nr15 cr15 av15 nv15 cv15 ar1 nr1 cr1 av1 nv1 cv1 w19 HHM19.out (HM.out.keep HB19.out))
         unfold Hd.val at HL1
         dsimp only at HL1
         go_wp2_with fail
         refine HL1.out.mono ?_
         rintro e w20 ⟨rfl,hb20⟩
         dsimp only
         have HB20:=Lib.hid (below_then HB19.out hb20 HB19.out.size)
         clear x0 x1 x2 x3 x4 x5 x6 y0 y1 y2 y3 y4 y5 y6 HL1 hb20
         go_wp2_with fail
         go_ret
         exact⟨rfl,HB20.out⟩
end Go.Proofs.YtlpgbmaoenncjaaGreatDoor

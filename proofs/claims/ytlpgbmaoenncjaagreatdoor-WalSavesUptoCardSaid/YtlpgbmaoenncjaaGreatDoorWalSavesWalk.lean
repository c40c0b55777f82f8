/-
  The walk of the law WalSaves: it returns true. (Written by wip/mkwsm.py.)
-/
import Derived.Test.YtlpgbmaoenncjaaGreatDoorWsM
import Derived.Test.YtlpgbmaoenncjaaGreatDoorWaL
import Derived.Test.YtlpgbmaoenncjaaGreatDoorDkFour
namespace Go.Proofs.YtlpgbmaoenncjaaGreatDoor
open Go.RowKit
set_option linter.unusedVariables false
set_option maxRecDepth 100000
set_option maxHeartbeats 4000000 in
theorem walSaves_walk (d:Dk) (a:Option Addr) (n c:Nat) (old:Hd) (ar:Option Addr) (nr cr:Nat) (av:Option Addr) (nv cv:Nat) (now:Hd) (ar1:Option Addr) (nr1 cr1:Nat) (av1:Option Addr) (nv1 cv1:Nat) (w:World) (hd:DkAt w a n c d) (H:HdAt w old ar nr cr av nv cv) (H1:HdAt w now ar1 nr1 cr1 av1 nv1 cv1) (htab:Lib.TabIs Tryz.prog w "internal/strconv.uint64pow10" .u64 Lib.pow10Tab) :
 Calls Tryz.prog 4 #[d.val a n c,old.val ar nr cr av nv cv,now.val ar1 nr1 cr1 av1 nv1 cv1] w (fun e w'=>e = .returned (.bool true)∧Below w.heap.size w w'):=by
 have HT:=Lib.hid (Lib.tabBelow_of_tabIs htab)
 obtain⟨X,hX⟩:∃ X,X=saveS d old now:=⟨_,rfl⟩
 have HS0:Hid (∀ W,Below w.heap.size w W→Calls Tryz.prog 18 #[old.val ar nr cr av nv cv] W fun e w'=>(∃ b,e = .returned (.bool b))∧Below W.heap.size W w'):=Lib.hid fun W hb=>small14_any old ar nr cr av nv cv W (H.keep hb)
 have HS1:Hid (∀ W,Below w.heap.size w W→Calls Tryz.prog 18 #[now.val ar1 nr1 cr1 av1 nv1 cv1] W fun e w'=>(∃ b,e = .returned (.bool b))∧Below W.heap.size W w'):=Lib.hid fun W hb=>small14_any now ar1 nr1 cr1 av1 nv1 cv1 W (H1.keep hb)
 have HWS:Hid (∀ W,Below w.heap.size w W→Calls Tryz.prog 19 #[d.val a n c,old.val ar nr cr av nv cv,now.val ar1 nr1 cr1 av1 nv1 cv1] W (RetDk W X)):=Lib.hid fun W hb=>by rw [hX]; exact wsave_all a n c d old now ar nr cr av nv cv ar1 nr1 cr1 av1 nv1 cv1 W (hd.keep hb) (H.keep hb) (H1.keep hb) (HT.out _ hb)
 have HRS:Hid (∀ W,Below w.heap.size w W→Calls Tryz.prog 20 #[d.val a n c,old.val ar nr cr av nv cv,now.val ar1 nr1 cr1 av1 nv1 cv1] W (RetDk W X)):=Lib.hid fun W hb=>by rw [hX]; exact rsave_all a n c d old now ar nr cr av nv cv ar1 nr1 cr1 av1 nv1 cv1 W (hd.keep hb) (H.keep hb) (H1.keep hb) (HT.out _ hb)
 have HAL:Hid (∀ W,Below w.heap.size w W→Calls Tryz.prog 21 #[] W fun e w'=>e = .returned (.bool true)∧Below W.heap.size W w'):=Lib.hid fun W hb=>alive14_any W (HT.out _ hb)
 clear hX htab hd H H1 HT
 obtain⟨tm,vt,bs,bt,rs,sn,vs⟩:=old
 obtain⟨tm1,vt1,bs1,bt1,rs1,sn1,vs1⟩:=now
 obtain⟨rm,fl,lf,dn⟩:=d
 unfold Hd.val Dk.val at *
 dsimp only at *
 have HB0:=Lib.hid ((((Below.refl w.heap.size w).alloc (Nat.le_refl _) (.cells #[.int .i64 rm,.slice a n c,.int .i64 lf,.bool dn] 38)).alloc (by simp) (.cells #[.int .i64 tm,.int .i64 vt,.int .i64 bs,.int .i64 bt,.slice ar nr cr,.string sn,.slice av nv cv] 42)).alloc (by simp; omega) (.cells #[.int .i64 tm1,.int .i64 vt1,.int .i64 bs1,.int .i64 bt1,.slice ar1 nr1 cr1,.string sn1,.slice av1 nv1 cv1] 42))
 have e1:(w.alloc (.cells #[.int .i64 rm,.slice a n c,.int .i64 lf,.bool dn] 38)).heap.size=w.heap.size+1:=World.size_alloc ..
 have e2:((w.alloc (.cells #[.int .i64 rm,.slice a n c,.int .i64 lf,.bool dn] 38)).alloc (.cells #[.int .i64 tm,.int .i64 vt,.int .i64 bs,.int .i64 bt,.slice ar nr cr,.string sn,.slice av nv cv] 42)).heap.size=w.heap.size+1+1:=by rw [World.size_alloc,e1]
 have HK0:Hid (Four (((w.alloc (.cells #[.int .i64 rm,.slice a n c,.int .i64 lf,.bool dn] 38)).alloc (.cells #[.int .i64 tm,.int .i64 vt,.int .i64 bs,.int .i64 bt,.slice ar nr cr,.string sn,.slice av nv cv] 42)).alloc (.cells #[.int .i64 tm1,.int .i64 vt1,.int .i64 bs1,.int .i64 bt1,.slice ar1 nr1 cr1,.string sn1,.slice av1 nv1 cv1] 42)) w.heap.size 38 (.int .i64 rm) (.slice a n c) (.int .i64 lf) (.bool dn)):=Lib.hid (Four.alloc (Four.alloc (Four.new w _ _ _ _ _) _) _)
 have HU0:Hid (Blk (((w.alloc (.cells #[.int .i64 rm,.slice a n c,.int .i64 lf,.bool dn] 38)).alloc (.cells #[.int .i64 tm,.int .i64 vt,.int .i64 bs,.int .i64 bt,.slice ar nr cr,.string sn,.slice av nv cv] 42)).alloc (.cells #[.int .i64 tm1,.int .i64 vt1,.int .i64 bs1,.int .i64 bt1,.slice ar1 nr1 cr1,.string sn1,.slice av1 nv1 cv1] 42)) (w.heap.size+1) 42 [.int .i64 tm,.int .i64 vt,.int .i64 bs,.int .i64 bt,.slice ar nr cr,.string sn,.slice av nv cv]):=Lib.hid (by
  have h:=heap_alloc_new (w.alloc (.cells #[.int .i64 rm,.slice a n c,.int .i64 lf,.bool dn] 38)) (.cells #[.int .i64 tm,.int .i64 vt,.int .i64 bs,.int .i64 bt,.slice ar nr cr,.string sn,.slice av nv cv] 42)
  rw [e1] at h
  exact Blk.alloc h _)
 have HV0:Hid (Blk (((w.alloc (.cells #[.int .i64 rm,.slice a n c,.int .i64 lf,.bool dn] 38)).alloc (.cells #[.int .i64 tm,.int .i64 vt,.int .i64 bs,.int .i64 bt,.slice ar nr cr,.string sn,.slice av nv cv] 42)).alloc (.cells #[.int .i64 tm1,.int .i64 vt1,.int .i64 bs1,.int .i64 bt1,.slice ar1 nr1 cr1,.string sn1,.slice av1 nv1 cv1] 42)) (w.heap.size+1+1) 42 [.int .i64 tm1,.int .i64 vt1,.int .i64 bs1,.int .i64 bt1,.slice ar1 nr1 cr1,.string sn1,.slice av1 nv1 cv1]):=Lib.hid (by
  have h:=heap_alloc_new ((w.alloc (.cells #[.int .i64 rm,.slice a n c,.int .i64 lf,.bool dn] 38)).alloc (.cells #[.int .i64 tm,.int .i64 vt,.int .i64 bs,.int .i64 bt,.slice ar nr cr,.string sn,.slice av nv cv] 42)) (.cells #[.int .i64 tm1,.int .i64 vt1,.int .i64 bs1,.int .i64 bt1,.slice ar1 nr1 cr1,.string sn1,.slice av1 nv1 cv1] 42)
  rw [e2] at h
  exact h)
 clear e1 e2
 have x0:=HU0.out.cell (j:=0) rfl; have x1:=HU0.out.cell (j:=1) rfl; have x2:=HU0.out.cell (j:=2) rfl; have x3:=HU0.out.cell (j:=3) rfl; have x4:=HU0.out.cell (j:=4) rfl; have x5:=HU0.out.cell (j:=5) rfl; have x6:=HU0.out.cell (j:=6) rfl
 go_enter Tryz.func4,Tryz.ntmps4
 go_upto_region 1 with fail
 generalize (((w.alloc (.cells #[.int .i64 rm,.slice a n c,.int .i64 lf,.bool dn] 38)).alloc (.cells #[.int .i64 tm,.int .i64 vt,.int .i64 bs,.int .i64 bt,.slice ar nr cr,.string sn,.slice av nv cv] 42)).alloc (.cells #[.int .i64 tm1,.int .i64 vt1,.int .i64 bs1,.int .i64 bt1,.slice ar1 nr1 cr1,.string sn1,.slice av1 nv1 cv1] 42))=w0 at *
 go_wp2_with fail
 refine (HS0.out _ HB0.out).mono ?_
 rintro e w1 ⟨⟨b,rfl⟩,hb1⟩
 dsimp only
 have HB1:=Lib.hid (below_then HB0.out hb1 HB0.out.size)
 have HK1:=Lib.hid (Four.keep HK0.out hb1)
 have HU1:=Lib.hid (HU0.out.keep hb1)
 have HV1:=Lib.hid (HV0.out.keep hb1)
 clear x0 x1 x2 x3 x4 x5 x6 HB0 HK0 HU0 HV0 hb1 HS0
 cases b with
 | false =>
   go_wp2_with fail
   go_ret
   exact⟨rfl,HB1.out⟩
 | true =>
   have y0:=HV1.out.cell (j:=0) rfl; have y1:=HV1.out.cell (j:=1) rfl; have y2:=HV1.out.cell (j:=2) rfl; have y3:=HV1.out.cell (j:=3) rfl; have y4:=HV1.out.cell (j:=4) rfl; have y5:=HV1.out.cell (j:=5) rfl; have y6:=HV1.out.cell (j:=6) rfl
   go_wp2_with fail
   refine (HS1.out _ HB1.out).mono ?_
   rintro e w2 ⟨⟨b,rfl⟩,hb2⟩
   dsimp only
   have HB2:=Lib.hid (below_then HB1.out hb2 HB1.out.size)
   have HK2:=Lib.hid (Four.keep HK1.out hb2)
   have HU2:=Lib.hid (HU1.out.keep hb2)
   have HV2:=Lib.hid (HV1.out.keep hb2)
   clear y0 y1 y2 y3 y4 y5 y6 HB1 HK1 HU1 HV1 hb2 HS1
   cases b with
   | false =>
     go_wp2_with fail
     go_ret
     exact⟨rfl,HB2.out⟩
   | true =>
     have q0:=HK2.out.c0; have q1:=HK2.out.c1; have q2:=HK2.out.c2; have q3:=HK2.out.c3
     have x0:=HU2.out.cell (j:=0) rfl; have x1:=HU2.out.cell (j:=1) rfl; have x2:=HU2.out.cell (j:=2) rfl; have x3:=HU2.out.cell (j:=3) rfl; have x4:=HU2.out.cell (j:=4) rfl; have x5:=HU2.out.cell (j:=5) rfl; have x6:=HU2.out.cell (j:=6) rfl
     have y0:=HV2.out.cell (j:=0) rfl; have y1:=HV2.out.cell (j:=1) rfl; have y2:=HV2.out.cell (j:=2) rfl; have y3:=HV2.out.cell (j:=3) rfl; have y4:=HV2.out.cell (j:=4) rfl; have y5:=HV2.out.cell (j:=5) rfl; have y6:=HV2.out.cell (j:=6) rfl
     go_wp2_with fail
     refine (HWS.out _ HB2.out).mono ?_
     rintro e w3 ⟨a3,n3,c3,rfl,hd3,hb3⟩
     obtain⟨⟨xr,xf,xl,xd⟩,x⟩:=X
     unfold Dk.val
     dsimp only at *
     have HB3:=Lib.hid (below_then HB2.out hb3 HB2.out.size)
     have hb4:Below w3.heap.size w3 (w3.alloc (.cells #[.int .i64 xr,.slice a3 n3 c3,.int .i64 xl,.bool xd] 38)):=(Below.refl _ w3).alloc (Nat.le_refl _) _
     have HB4:=Lib.hid (below_then HB3.out hb4 HB3.out.size)
     have HK4:=Lib.hid (Four.keep (Four.keep HK2.out hb3) hb4)
     have HU4:=Lib.hid ((HU2.out.keep hb3).keep hb4)
     have HV4:=Lib.hid ((HV2.out.keep hb3).keep hb4)
     have HD4:=Lib.hid (hd3.keep hb4)
     have HX4:Hid (DkBox (w3.alloc (.cells #[.int .i64 xr,.slice a3 n3 c3,.int .i64 xl,.bool xd] 38)) w3.heap.size ⟨xr,xf,xl,xd⟩ a3 n3 c3):=Lib.hid (DkBox.new w3 ⟨xr,xf,xl,xd⟩ a3 n3 c3)
     clear q0 q1 q2 q3 x0 x1 x2 x3 x4 x5 x6 y0 y1 y2 y3 y4 y5 y6 HB2 HB3 HK2 HU2 HV2 hb3 hb4 hd3 HWS
     go_upto_region 4 with fail
     generalize w3.alloc (.cells #[.int .i64 xr,.slice a3 n3 c3,.int .i64 xl,.bool xd] 38)=w4 at *
     generalize w3.heap.size=s4 at *
     have q0:=HK4.out.c0; have q1:=HK4.out.c1; have q2:=HK4.out.c2; have q3:=HK4.out.c3
     have x0:=HU4.out.cell (j:=0) rfl; have x1:=HU4.out.cell (j:=1) rfl; have x2:=HU4.out.cell (j:=2) rfl; have x3:=HU4.out.cell (j:=3) rfl; have x4:=HU4.out.cell (j:=4) rfl; have x5:=HU4.out.cell (j:=5) rfl; have x6:=HU4.out.cell (j:=6) rfl
     have y0:=HV4.out.cell (j:=0) rfl; have y1:=HV4.out.cell (j:=1) rfl; have y2:=HV4.out.cell (j:=2) rfl; have y3:=HV4.out.cell (j:=3) rfl; have y4:=HV4.out.cell (j:=4) rfl; have y5:=HV4.out.cell (j:=5) rfl; have y6:=HV4.out.cell (j:=6) rfl
     go_wp2_with fail
     refine (HRS.out _ HB4.out).mono ?_
     rintro e w5 ⟨a5,n5,c5,rfl,hd5,hb5⟩
     unfold Dk.val
     dsimp only at *
     have HB5:=Lib.hid (below_then HB4.out hb5 HB4.out.size)
     have hb6:Below w5.heap.size w5 (w5.alloc (.cells #[.int .i64 xr,.slice a5 n5 c5,.int .i64 xl,.bool xd] 38)):=(Below.refl _ w5).alloc (Nat.le_refl _) _
     have HB6:=Lib.hid (below_then HB5.out hb6 HB5.out.size)
     have HD6:=Lib.hid (hd5.keep hb6)
     have HX6:Hid (DkBox (w5.alloc (.cells #[.int .i64 xr,.slice a5 n5 c5,.int .i64 xl,.bool xd] 38)) w5.heap.size ⟨xr,xf,xl,xd⟩ a5 n5 c5):=Lib.hid (DkBox.new w5 ⟨xr,xf,xl,xd⟩ a5 n5 c5)
     have HY6:=Lib.hid ((HX4.out.keep hb5).keep hb6)
     have HE6:=Lib.hid ((HD4.out.keep hb5).keep hb6)
     clear q0 q1 q2 q3 x0 x1 x2 x3 x4 x5 x6 y0 y1 y2 y3 y4 y5 y6 HB4 HB5 HK4 HU4 HV4 HX4 HD4 hb5 hb6 hd5 HRS
     go_upto_region 5 with fail
     generalize w5.alloc (.cells #[.int .i64 xr,.slice a5 n5 c5,.int .i64 xl,.bool xd] 38)=w6 at *
     generalize w5.heap.size=s6 at *
     go_wp2_with fail
     refine (HAL.out _ HB6.out).mono ?_
     rintro e w7 ⟨rfl,hb7⟩
     dsimp only
     have HB7:=Lib.hid (below_then HB6.out hb7 HB6.out.size)
     have HX7:=Lib.hid (HX6.out.keep hb7)
     have HY7:=Lib.hid (HY6.out.keep hb7)
     have hlk:=Lib.hid (refLike_same a3 n3 c3 a5 n5 c5 ⟨xr,xf,xl,xd⟩ w7 (HE6.out.keep hb7) (HD6.out.keep hb7))
     have q0:=HX7.out.c0; have q1:=HX7.out.c1; have q2:=HX7.out.c2; have q3:=HX7.out.c3
     have z0:=HY7.out.c0; have z1:=HY7.out.c1; have z2:=HY7.out.c2; have z3:=HY7.out.c3
     clear HB6 HX6 HY6 HD6 HE6 hb7 HAL
     unfold Dk.val at hlk
     dsimp only at q0 q1 q2 q3 z0 z1 z2 z3 hlk
     go_wp2_with fail
     refine hlk.out.mono ?_
     rintro e w8 ⟨rfl,hb8⟩
     dsimp only
     have HB8:=Lib.hid (below_then HB7.out hb8 HB7.out.size)
     clear q0 q1 q2 q3 z0 z1 z2 z3 HX7 HY7 HB7 hlk hb8
     go_wp2_with fail
     go_ret
     exact⟨rfl,HB8.out⟩
end Go.Proofs.YtlpgbmaoenncjaaGreatDoor

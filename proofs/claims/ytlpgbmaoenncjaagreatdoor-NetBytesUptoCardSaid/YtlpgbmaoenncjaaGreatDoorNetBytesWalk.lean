/-
  The walk of the law NetBytes: it returns true. (Written by wip/mknbytes.py.)
-/
import Derived.Test.YtlpgbmaoenncjaaGreatDoorRsA
import Derived.Test.YtlpgbmaoenncjaaGreatDoorRgB
import Derived.Test.YtlpgbmaoenncjaaGreatDoorNgE
import Derived.Test.YtlpgbmaoenncjaaGreatDoorNaL
namespace Go.Proofs.YtlpgbmaoenncjaaGreatDoor
open Go.RowKit
set_option linter.unusedVariables false
set_option maxRecDepth 100000 in
set_option maxHeartbeats 4000000 in
theorem netBytes_walk (m:Ms) (ar:Option Addr) (nr cr:Nat) (av:Option Addr) (nv cv:Nat) (s:ByteArray) (w:World) (h:MsAt w m ar nr cr av nv cv) (hsn:m.snap.size≤140737488355328) (hd:∀ r∈m.recs,r.data.size≤140737488355328) (hm:s.size≤9223372036854775807) (htab:Lib.TabIs Tryz.prog w "internal/strconv.uint64pow10" .u64 Lib.pow10Tab) :
 Calls Tryz.prog 3 #[m.val ar nr cr av nv cv,.string s] w (fun e w'=>e = .returned (.bool true)∧Below w.heap.size w w'):=by
 have HT:=zA (Lib.tabBelow_of_tabIs htab)
 obtain⟨g,hg⟩:∃ g,g=putM m:=⟨_,rfl⟩
 obtain⟨q,hq⟩:∃ q,q=sealM m:=⟨_,rfl⟩
 obtain⟨y,hy⟩:∃ y,y=getM s:=⟨_,rfl⟩
 have Hg:=zA hg
 have Hq:=zA hq
 have HPUT:Hid (∀ W,Below w.heap.size w W→Calls Tryz.prog 10 #[m.val ar nr cr av nv cv] W fun e w'=>e = .returned (.tuple #[.string g.1,.int .i64 g.2])∧Below W.heap.size W w'):=zA (fun W hb=>nput_any m ar nr cr av nv cv W (h.keep hb) (HT.out _ hb) g Hg)
 have HRPU:Hid (∀ W,Below w.heap.size w W→Calls Tryz.prog 11 #[m.val ar nr cr av nv cv] W fun e w'=>e = .returned (.tuple #[.string g.1,.int .i64 g.2])∧Below W.heap.size W w'):=zA (fun W hb=>rput21_any m ar nr cr av nv cv W (h.keep hb) (HT.out _ hb) g Hg)
 have HSEA:Hid (∀ W,Below w.heap.size w W→Calls Tryz.prog 12 #[m.val ar nr cr av nv cv] W fun e w'=>e = .returned (.tuple #[.string q.1,.int .i64 q.2])∧Below W.heap.size W w'):=zA (fun W hb=>nseal_any m ar nr cr av nv cv W (h.keep hb) (HT.out _ hb) q Hq)
 have HRSE:Hid (∀ W,Below w.heap.size w W→Calls Tryz.prog 13 #[m.val ar nr cr av nv cv] W fun e w'=>e = .returned (.tuple #[.string q.1,.int .i64 q.2])∧Below W.heap.size W w'):=zA (fun W hb=>rseal_any m ar nr cr av nv cv W (h.keep hb) (HT.out _ hb) q Hq)
 have HSM:Hid (∀ W,Below w.heap.size w W→Calls Tryz.prog 9 #[m.val ar nr cr av nv cv] W fun e w'=>(∃ b,e = .returned (.bool b))∧Below W.heap.size W w'):=zA (fun W hb=>small_any m ar nr cr av nv cv W (h.keep hb) hsn hd)
 have HGE:Hid (∀ W,Calls Tryz.prog 14 #[.string s] W (RetM W y)):=zA (fun W=>by rw [hy]; exact nget_any s W hm)
 have HRG:Hid (∀ W,Calls Tryz.prog 15 #[.string s] W (RetM W y)):=zA (fun W=>by rw [hy]; exact rg_any s W hm)
 have HAL:=zA alive_any
 clear hg hq hy Hg Hq htab h hsn hd
 obtain⟨kd,fr,ds,tm,ok,ix,lt,rs,cm,sn,vs⟩:=m
 unfold Ms.val at HPUT HRPU HSEA HRSE HSM ⊢
 dsimp only at *
 have HB0:=zA ((Below.refl w.heap.size w).alloc (Nat.le_refl _) (.cells #[.int .i64 kd,.int .i64 fr,.int .i64 ds,.int .i64 tm,.bool ok,.int .i64 ix,.int .i64 lt,.slice ar nr cr,.int .i64 cm,.string sn,.slice av nv cv] 25))
 have HK0:Hid (Blk (w.alloc (.cells #[.int .i64 kd,.int .i64 fr,.int .i64 ds,.int .i64 tm,.bool ok,.int .i64 ix,.int .i64 lt,.slice ar nr cr,.int .i64 cm,.string sn,.slice av nv cv] 25)) w.heap.size 25 [.int .i64 kd,.int .i64 fr,.int .i64 ds,.int .i64 tm,.bool ok,.int .i64 ix,.int .i64 lt,.slice ar nr cr,.int .i64 cm,.string sn,.slice av nv cv]):=zA (heap_alloc_new w _)
 obtain⟨g1,g2⟩:=g
 obtain⟨q1,q2⟩:=q
 dsimp only at *
 have x0:=HK0.out.cell (j:=0) rfl
 have x1:=HK0.out.cell (j:=1) rfl
 have x2:=HK0.out.cell (j:=2) rfl
 have x3:=HK0.out.cell (j:=3) rfl
 have x4:=HK0.out.cell (j:=4) rfl
 have x5:=HK0.out.cell (j:=5) rfl
 have x6:=HK0.out.cell (j:=6) rfl
 have x7:=HK0.out.cell (j:=7) rfl
 have x8:=HK0.out.cell (j:=8) rfl
 have x9:=HK0.out.cell (j:=9) rfl
 have x10:=HK0.out.cell (j:=10) rfl
 go_enter Tryz.func3,Tryz.ntmps3
 go_wp2_with fail
 refine (HSM.out _ HB0.out).mono ?_
 rintro e w1 ⟨⟨b,rfl⟩,hb1⟩
 dsimp only
 have HB1:=zA (below_then HB0.out hb1 HB0.out.size)
 have HK1:=zA (HK0.out.keep hb1)
 clear x0 x1 x2 x3 x4 x5 x6 x7 x8 x9 x10 hb1 HB0 HK0 HSM
 cases b with
 | false =>
   go_wp2_with fail
   go_ret
   exact⟨rfl,HB1.out⟩
 | true =>
   by_cases hs:20000<s.size
   ·have hsi:(20000:Int)<(s.size:Int):=by omega
    go_wp2_with fail
    go_ret
    exact⟨rfl,HB1.out⟩
   ·have hsi:(s.size:Int)≤20000:=by omega
    have x0:=HK1.out.cell (j:=0) rfl
    have x1:=HK1.out.cell (j:=1) rfl
    have x2:=HK1.out.cell (j:=2) rfl
    have x3:=HK1.out.cell (j:=3) rfl
    have x4:=HK1.out.cell (j:=4) rfl
    have x5:=HK1.out.cell (j:=5) rfl
    have x6:=HK1.out.cell (j:=6) rfl
    have x7:=HK1.out.cell (j:=7) rfl
    have x8:=HK1.out.cell (j:=8) rfl
    have x9:=HK1.out.cell (j:=9) rfl
    have x10:=HK1.out.cell (j:=10) rfl
    go_wp2_with fail
    refine (HPUT.out w1 HB1.out).mono ?_
    rintro e w2 ⟨rfl,hb2⟩
    dsimp only
    have HB2:=zA (below_then HB1.out hb2 HB1.out.size)
    have HK2:=zA (HK1.out.keep hb2)
    clear x0 x1 x2 x3 x4 x5 x6 x7 x8 x9 x10 hb2 HB1 HK1 HPUT hs hsi
    have x0:=HK2.out.cell (j:=0) rfl
    have x1:=HK2.out.cell (j:=1) rfl
    have x2:=HK2.out.cell (j:=2) rfl
    have x3:=HK2.out.cell (j:=3) rfl
    have x4:=HK2.out.cell (j:=4) rfl
    have x5:=HK2.out.cell (j:=5) rfl
    have x6:=HK2.out.cell (j:=6) rfl
    have x7:=HK2.out.cell (j:=7) rfl
    have x8:=HK2.out.cell (j:=8) rfl
    have x9:=HK2.out.cell (j:=9) rfl
    have x10:=HK2.out.cell (j:=10) rfl
    go_wp2_with fail
    refine (HRPU.out w2 HB2.out).mono ?_
    rintro e w3 ⟨rfl,hb3⟩
    dsimp only
    have HB3:=zA (below_then HB2.out hb3 HB2.out.size)
    have HK3:=zA (HK2.out.keep hb3)
    clear x0 x1 x2 x3 x4 x5 x6 x7 x8 x9 x10 hb3 HB2 HK2 HRPU
    have x0:=HK3.out.cell (j:=0) rfl
    have x1:=HK3.out.cell (j:=1) rfl
    have x2:=HK3.out.cell (j:=2) rfl
    have x3:=HK3.out.cell (j:=3) rfl
    have x4:=HK3.out.cell (j:=4) rfl
    have x5:=HK3.out.cell (j:=5) rfl
    have x6:=HK3.out.cell (j:=6) rfl
    have x7:=HK3.out.cell (j:=7) rfl
    have x8:=HK3.out.cell (j:=8) rfl
    have x9:=HK3.out.cell (j:=9) rfl
    have x10:=HK3.out.cell (j:=10) rfl
    go_wp2_with fail
    refine (HSEA.out w3 HB3.out).mono ?_
    rintro e w4 ⟨rfl,hb4⟩
    dsimp only
    have HB4:=zA (below_then HB3.out hb4 HB3.out.size)
    have HK4:=zA (HK3.out.keep hb4)
    clear x0 x1 x2 x3 x4 x5 x6 x7 x8 x9 x10 hb4 HB3 HK3 HSEA
    have x0:=HK4.out.cell (j:=0) rfl
    have x1:=HK4.out.cell (j:=1) rfl
    have x2:=HK4.out.cell (j:=2) rfl
    have x3:=HK4.out.cell (j:=3) rfl
    have x4:=HK4.out.cell (j:=4) rfl
    have x5:=HK4.out.cell (j:=5) rfl
    have x6:=HK4.out.cell (j:=6) rfl
    have x7:=HK4.out.cell (j:=7) rfl
    have x8:=HK4.out.cell (j:=8) rfl
    have x9:=HK4.out.cell (j:=9) rfl
    have x10:=HK4.out.cell (j:=10) rfl
    go_wp2_with fail
    refine (HRSE.out w4 HB4.out).mono ?_
    rintro e w5 ⟨rfl,hb5⟩
    dsimp only
    have HB5:=zA (below_then HB4.out hb5 HB4.out.size)
    have HK5:=zA (HK4.out.keep hb5)
    clear x0 x1 x2 x3 x4 x5 x6 x7 x8 x9 x10 hb5 HB4 HK4 HRSE
    clear HK5
    obtain⟨⟨kdy,fry,dsy,tmy,oky,ixy,lty,rsy,cmy,sny,vsy⟩,er⟩:=y
    go_wp2_with fail
    refine (HGE.out w5).mono ?_
    rintro e w6 ⟨ar6,nr6,cr6,av6,nv6,cv6,rfl,hms6,hb6,-,-⟩
    unfold Ms.val
    dsimp only
    have HB6:=zA (below_then HB5.out hb6 HB5.out.size)
    have HMX6:=zA hms6
    clear hms6 hb6 HB5 HGE
    go_upto_region 8 with fail
    have HB7:=zA (HB6.out.alloc HB6.out.size (.cells #[.int .i64 kdy,.int .i64 fry,.int .i64 dsy,.int .i64 tmy,.bool oky,.int .i64 ixy,.int .i64 lty,.slice ar6 nr6 cr6,.int .i64 cmy,.string sny,.slice av6 nv6 cv6] 25))
    have HX7:=zA (show Blk (w6.alloc (.cells #[.int .i64 kdy,.int .i64 fry,.int .i64 dsy,.int .i64 tmy,.bool oky,.int .i64 ixy,.int .i64 lty,.slice ar6 nr6 cr6,.int .i64 cmy,.string sny,.slice av6 nv6 cv6] 25)) w6.heap.size 25 [.int .i64 kdy,.int .i64 fry,.int .i64 dsy,.int .i64 tmy,.bool oky,.int .i64 ixy,.int .i64 lty,.slice ar6 nr6 cr6,.int .i64 cmy,.string sny,.slice av6 nv6 cv6] from heap_alloc_new w6 _)
    have HMX7:=zA (HMX6.out.keep ((Below.refl _ w6).alloc (Nat.le_refl _) (.cells #[.int .i64 kdy,.int .i64 fry,.int .i64 dsy,.int .i64 tmy,.bool oky,.int .i64 ixy,.int .i64 lty,.slice ar6 nr6 cr6,.int .i64 cmy,.string sny,.slice av6 nv6 cv6] 25)))
    generalize w6.alloc (.cells #[.int .i64 kdy,.int .i64 fry,.int .i64 dsy,.int .i64 tmy,.bool oky,.int .i64 ixy,.int .i64 lty,.slice ar6 nr6 cr6,.int .i64 cmy,.string sny,.slice av6 nv6 cv6] 25)=w7 at *
    clear HB6 HMX6
    go_wp2_with fail
    refine (HRG.out w7).mono ?_
    rintro e w8 ⟨ar8,nr8,cr8,av8,nv8,cv8,rfl,hms8,hb8,-,-⟩
    unfold Ms.val
    dsimp only
    have HB8:=zA (below_then HB7.out hb8 HB7.out.size)
    have HX8:=zA (HX7.out.keep hb8)
    have HMX8:=zA (HMX7.out.keep hb8)
    have HMY8:=zA hms8
    clear hms8 hb8 HB7 HX7 HMX7 HRG
    go_upto_region 9 with fail
    have HB9:=zA (HB8.out.alloc HB8.out.size (.cells #[.int .i64 kdy,.int .i64 fry,.int .i64 dsy,.int .i64 tmy,.bool oky,.int .i64 ixy,.int .i64 lty,.slice ar8 nr8 cr8,.int .i64 cmy,.string sny,.slice av8 nv8 cv8] 25))
    have HX9:=zA (HX8.out.alloc (.cells #[.int .i64 kdy,.int .i64 fry,.int .i64 dsy,.int .i64 tmy,.bool oky,.int .i64 ixy,.int .i64 lty,.slice ar8 nr8 cr8,.int .i64 cmy,.string sny,.slice av8 nv8 cv8] 25))
    have HY9:=zA (show Blk (w8.alloc (.cells #[.int .i64 kdy,.int .i64 fry,.int .i64 dsy,.int .i64 tmy,.bool oky,.int .i64 ixy,.int .i64 lty,.slice ar8 nr8 cr8,.int .i64 cmy,.string sny,.slice av8 nv8 cv8] 25)) w8.heap.size 25 [.int .i64 kdy,.int .i64 fry,.int .i64 dsy,.int .i64 tmy,.bool oky,.int .i64 ixy,.int .i64 lty,.slice ar8 nr8 cr8,.int .i64 cmy,.string sny,.slice av8 nv8 cv8] from heap_alloc_new w8 _)
    have HMX9:=zA (HMX8.out.keep ((Below.refl _ w8).alloc (Nat.le_refl _) (.cells #[.int .i64 kdy,.int .i64 fry,.int .i64 dsy,.int .i64 tmy,.bool oky,.int .i64 ixy,.int .i64 lty,.slice ar8 nr8 cr8,.int .i64 cmy,.string sny,.slice av8 nv8 cv8] 25)))
    have HMY9:=zA (HMY8.out.keep ((Below.refl _ w8).alloc (Nat.le_refl _) (.cells #[.int .i64 kdy,.int .i64 fry,.int .i64 dsy,.int .i64 tmy,.bool oky,.int .i64 ixy,.int .i64 lty,.slice ar8 nr8 cr8,.int .i64 cmy,.string sny,.slice av8 nv8 cv8] 25)))
    generalize w8.alloc (.cells #[.int .i64 kdy,.int .i64 fry,.int .i64 dsy,.int .i64 tmy,.bool oky,.int .i64 ixy,.int .i64 lty,.slice ar8 nr8 cr8,.int .i64 cmy,.string sny,.slice av8 nv8 cv8] 25)=w9 at *
    clear HB8 HX8 HMX8 HMY8
    go_wp2_with fail
    refine (HAL.out w9).mono ?_
    rintro e w10 ⟨rfl,hb10⟩
    have HB10:=zA (below_then HB9.out hb10 HB9.out.size)
    have HX10:=zA (HX9.out.keep hb10)
    have HK10:=zA (HY9.out.keep hb10)
    have HMX10:=zA (HMX9.out.keep hb10)
    have HMY10:=zA (HMY9.out.keep hb10)
    have hee:(er==er)=true:=by simp
    have e1:(g1.toList==g1.toList)=true:=by simp
    have e2:(g2==g2)=true:=by simp
    have e3:(q1.toList==q1.toList)=true:=by simp
    have e4:(q2==q2)=true:=by simp
    clear hb10 HB9 HX9 HY9 HMX9 HMY9 HAL
    have x0:=HX10.out.cell (j:=0) rfl
    have x1:=HX10.out.cell (j:=1) rfl
    have x2:=HX10.out.cell (j:=2) rfl
    have x3:=HX10.out.cell (j:=3) rfl
    have x4:=HX10.out.cell (j:=4) rfl
    have x5:=HX10.out.cell (j:=5) rfl
    have x6:=HX10.out.cell (j:=6) rfl
    have x7:=HX10.out.cell (j:=7) rfl
    have x8:=HX10.out.cell (j:=8) rfl
    have x9:=HX10.out.cell (j:=9) rfl
    have x10:=HX10.out.cell (j:=10) rfl
    have y0:=(HK10.out.alloc (.cells #[.int .i64 kdy,.int .i64 fry,.int .i64 dsy,.int .i64 tmy,.bool oky,.int .i64 ixy,.int .i64 lty,.slice ar6 nr6 cr6,.int .i64 cmy,.string sny,.slice av6 nv6 cv6] 25)).cell (j:=0) rfl
    have y1:=(HK10.out.alloc (.cells #[.int .i64 kdy,.int .i64 fry,.int .i64 dsy,.int .i64 tmy,.bool oky,.int .i64 ixy,.int .i64 lty,.slice ar6 nr6 cr6,.int .i64 cmy,.string sny,.slice av6 nv6 cv6] 25)).cell (j:=1) rfl
    have y2:=(HK10.out.alloc (.cells #[.int .i64 kdy,.int .i64 fry,.int .i64 dsy,.int .i64 tmy,.bool oky,.int .i64 ixy,.int .i64 lty,.slice ar6 nr6 cr6,.int .i64 cmy,.string sny,.slice av6 nv6 cv6] 25)).cell (j:=2) rfl
    have y3:=(HK10.out.alloc (.cells #[.int .i64 kdy,.int .i64 fry,.int .i64 dsy,.int .i64 tmy,.bool oky,.int .i64 ixy,.int .i64 lty,.slice ar6 nr6 cr6,.int .i64 cmy,.string sny,.slice av6 nv6 cv6] 25)).cell (j:=3) rfl
    have y4:=(HK10.out.alloc (.cells #[.int .i64 kdy,.int .i64 fry,.int .i64 dsy,.int .i64 tmy,.bool oky,.int .i64 ixy,.int .i64 lty,.slice ar6 nr6 cr6,.int .i64 cmy,.string sny,.slice av6 nv6 cv6] 25)).cell (j:=4) rfl
    have y5:=(HK10.out.alloc (.cells #[.int .i64 kdy,.int .i64 fry,.int .i64 dsy,.int .i64 tmy,.bool oky,.int .i64 ixy,.int .i64 lty,.slice ar6 nr6 cr6,.int .i64 cmy,.string sny,.slice av6 nv6 cv6] 25)).cell (j:=5) rfl
    have y6:=(HK10.out.alloc (.cells #[.int .i64 kdy,.int .i64 fry,.int .i64 dsy,.int .i64 tmy,.bool oky,.int .i64 ixy,.int .i64 lty,.slice ar6 nr6 cr6,.int .i64 cmy,.string sny,.slice av6 nv6 cv6] 25)).cell (j:=6) rfl
    have y7:=(HK10.out.alloc (.cells #[.int .i64 kdy,.int .i64 fry,.int .i64 dsy,.int .i64 tmy,.bool oky,.int .i64 ixy,.int .i64 lty,.slice ar6 nr6 cr6,.int .i64 cmy,.string sny,.slice av6 nv6 cv6] 25)).cell (j:=7) rfl
    have y8:=(HK10.out.alloc (.cells #[.int .i64 kdy,.int .i64 fry,.int .i64 dsy,.int .i64 tmy,.bool oky,.int .i64 ixy,.int .i64 lty,.slice ar6 nr6 cr6,.int .i64 cmy,.string sny,.slice av6 nv6 cv6] 25)).cell (j:=8) rfl
    have y9:=(HK10.out.alloc (.cells #[.int .i64 kdy,.int .i64 fry,.int .i64 dsy,.int .i64 tmy,.bool oky,.int .i64 ixy,.int .i64 lty,.slice ar6 nr6 cr6,.int .i64 cmy,.string sny,.slice av6 nv6 cv6] 25)).cell (j:=9) rfl
    have y10:=(HK10.out.alloc (.cells #[.int .i64 kdy,.int .i64 fry,.int .i64 dsy,.int .i64 tmy,.bool oky,.int .i64 ixy,.int .i64 lty,.slice ar6 nr6 cr6,.int .i64 cmy,.string sny,.slice av6 nv6 cv6] 25)).cell (j:=10) rfl
    have HA10:=zA (HB10.out.alloc HB10.out.size (.cells #[.int .i64 kdy,.int .i64 fry,.int .i64 dsy,.int .i64 tmy,.bool oky,.int .i64 ixy,.int .i64 lty,.slice ar6 nr6 cr6,.int .i64 cmy,.string sny,.slice av6 nv6 cv6] 25))
    have HC10:=zA (HA10.out.alloc HA10.out.size (.cells #[.int .i64 kdy,.int .i64 fry,.int .i64 dsy,.int .i64 tmy,.bool oky,.int .i64 ixy,.int .i64 lty,.slice ar8 nr8 cr8,.int .i64 cmy,.string sny,.slice av8 nv8 cv8] 25))
    have hlk:Hid (Calls Tryz.prog 17 #[.slice (some ⟨w10.heap.size,0,none⟩) 1 1,.slice (some ⟨w10.heap.size+1,0,none⟩) 1 1] ((w10.alloc (.cells #[.int .i64 kdy,.int .i64 fry,.int .i64 dsy,.int .i64 tmy,.bool oky,.int .i64 ixy,.int .i64 lty,.slice ar6 nr6 cr6,.int .i64 cmy,.string sny,.slice av6 nv6 cv6] 25)).alloc (.cells #[.int .i64 kdy,.int .i64 fry,.int .i64 dsy,.int .i64 tmy,.bool oky,.int .i64 ixy,.int .i64 lty,.slice ar8 nr8 cr8,.int .i64 cmy,.string sny,.slice av8 nv8 cv8] 25)) _):=zA (likeMsg_same w10.heap.size (w10.heap.size+1) 1 1 ⟨kdy,fry,dsy,tmy,oky,ixy,lty,rsy,cmy,sny,vsy⟩ ar6 nr6 cr6 av6 nv6 cv6 ar8 nr8 cr8 av8 nv8 cv8 ((w10.alloc (.cells #[.int .i64 kdy,.int .i64 fry,.int .i64 dsy,.int .i64 tmy,.bool oky,.int .i64 ixy,.int .i64 lty,.slice ar6 nr6 cr6,.int .i64 cmy,.string sny,.slice av6 nv6 cv6] 25)).alloc (.cells #[.int .i64 kdy,.int .i64 fry,.int .i64 dsy,.int .i64 tmy,.bool oky,.int .i64 ixy,.int .i64 lty,.slice ar8 nr8 cr8,.int .i64 cmy,.string sny,.slice av8 nv8 cv8] 25))
     (HMX10.out.keep (((Below.refl _ w10).alloc (Nat.le_refl _) (.cells #[.int .i64 kdy,.int .i64 fry,.int .i64 dsy,.int .i64 tmy,.bool oky,.int .i64 ixy,.int .i64 lty,.slice ar6 nr6 cr6,.int .i64 cmy,.string sny,.slice av6 nv6 cv6] 25)).alloc (by simp) (.cells #[.int .i64 kdy,.int .i64 fry,.int .i64 dsy,.int .i64 tmy,.bool oky,.int .i64 ixy,.int .i64 lty,.slice ar8 nr8 cr8,.int .i64 cmy,.string sny,.slice av8 nv8 cv8] 25))) (HMY10.out.keep (((Below.refl _ w10).alloc (Nat.le_refl _) (.cells #[.int .i64 kdy,.int .i64 fry,.int .i64 dsy,.int .i64 tmy,.bool oky,.int .i64 ixy,.int .i64 lty,.slice ar6 nr6 cr6,.int .i64 cmy,.string sny,.slice av6 nv6 cv6] 25)).alloc (by simp) (.cells #[.int .i64 kdy,.int .i64 fry,.int .i64 dsy,.int .i64 tmy,.bool oky,.int .i64 ixy,.int .i64 lty,.slice ar8 nr8 cr8,.int .i64 cmy,.string sny,.slice av8 nv8 cv8] 25)))
     (Blk.alloc (heap_alloc_new w10 _) _) (by have hz:=heap_alloc_new (w10.alloc (.cells #[.int .i64 kdy,.int .i64 fry,.int .i64 dsy,.int .i64 tmy,.bool oky,.int .i64 ixy,.int .i64 lty,.slice ar6 nr6 cr6,.int .i64 cmy,.string sny,.slice av6 nv6 cv6] 25)) (.cells #[.int .i64 kdy,.int .i64 fry,.int .i64 dsy,.int .i64 tmy,.bool oky,.int .i64 ixy,.int .i64 lty,.slice ar8 nr8 cr8,.int .i64 cmy,.string sny,.slice av8 nv8 cv8] 25); rw [World.size_alloc] at hz; exact hz))
    go_wp2_with fail
    refine hlk.out.mono ?_
    rintro e w11 ⟨rfl,hb11⟩
    have HB11:=zA (below_then HC10.out hb11 HC10.out.size)
    go_wp2_with fail
    go_ret
    exact⟨rfl,HB11.out⟩
end Go.Proofs.YtlpgbmaoenncjaaGreatDoor

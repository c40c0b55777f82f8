/-
  Layer 14's law: small, alive; ref14.Like of the same state. (Written by wip/mkwal.py.)
-/
import Derived.Test.YtlpgbmaoenncjaaGreatDoorWpA
import Derived.Test.YtlpgbmaoenncjaaGreatDoorNmC
namespace Go.Proofs.YtlpgbmaoenncjaaGreatDoor
open Go.RowKit
set_option linter.unusedVariables false
set_option maxRecDepth 100000 in
set_option maxHeartbeats 1000000 in
theorem small14_any (h:Hd) (ar:Option Addr) (nr cr:Nat) (av:Option Addr) (nv cv:Nat) (w:World) (H:HdAt w h ar nr cr av nv cv) :
 Calls Tryz.prog 18 #[h.val ar nr cr av nv cv] w fun e w'=>(∃ b,e = .returned (.bool b))∧Below w.heap.size w w':=by
 have hsn:=H.snap
 have hd:=fun r hr=>(H.data r hr).1
 obtain⟨tm,vt,bs,bt,rs,sn,vs⟩:=h
 unfold Hd.val
 dsimp only at *
 have HR:=Lib.hid (show rcE.Sl w ar nr rs from H.recs)
 have HN:=Lib.hid (show nr=rs.length from H.rlen)
 have HNR:=H.nr
 have HD:=Lib.hid hd
 have HB0:=Lib.hid ((Below.refl w.heap.size w).alloc (Nat.le_refl _) (.cells #[.int .i64 tm,.int .i64 vt,.int .i64 bs,.int .i64 bt,.slice ar nr cr,.string sn,.slice av nv cv] 42))
 have HK0:Hid (Blk (w.alloc (.cells #[.int .i64 tm,.int .i64 vt,.int .i64 bs,.int .i64 bt,.slice ar nr cr,.string sn,.slice av nv cv] 42)) w.heap.size 42 [.int .i64 tm,.int .i64 vt,.int .i64 bs,.int .i64 bt,.slice ar nr cr,.string sn,.slice av nv cv]):=Lib.hid (heap_alloc_new w _)
 have x4:=HK0.out.cell (j:=4) rfl
 have x5:=HK0.out.cell (j:=5) rfl
 clear H hd
 obtain⟨K0,hK0⟩:∃ K0,K0=sn.size:=⟨_,rfl⟩
 rw [← hK0] at hsn
 replace hK0:=Lib.hid hK0
 go_enter Tryz.func18,Tryz.ntmps18
 go_wp2_with fail
 clear x4 x5
 go_loopg [3,4,5,13] nr (fun gk v3 v4 v5 i wr=>∃ k K:Nat,k≤nr∧gk=nr - k∧i = .int .i64 (k:Int)∧v3 = .int .i64 (K:Int)∧K≤140737488355328∧Hid (Below w.heap.size w wr))
 case atStart=>exact⟨0,K0,Nat.zero_le _,rfl,rfl,by rw [hK0.out],hsn,HB0⟩
 case round =>
  obtain⟨k,K,hk,rfl,rfl,rfl,hK,hB⟩:=hrel
  by_cases hkn:k<nr
  ·have hki:(k:Int)<(nr:Int):=by omega
   have hkl:k<rs.length:=by rw [← HN.out]; exact hkn
   obtain⟨b,off,rfl,hc⟩:=rc_at (HR.out.keep hB.out) (by omega)
   obtain⟨c0,c1,c2⟩:=hc k hkl
   have hdk:=HD.out _ (List.getElem_mem hkl)
   clear hc
   generalize rs[k]=r at *
   obtain⟨rt,rk,rd⟩:=r
   dsimp only at *
   have HK1:Hid (Blk (wr.alloc (.cells #[.int .i64 rt,.int .i64 rk,.string rd] 67)) wr.heap.size 67 [.int .i64 rt,.int .i64 rk,.string rd]):=Lib.hid (heap_alloc_new wr _)
   have HB1:=Lib.hid (hB.out.alloc hB.out.size (.cells #[.int .i64 rt,.int .i64 rk,.string rd] 67))
   have z2:=HK1.out.cell (j:=2) rfl
   by_cases hbig:K+rd.size≤20000
   ·have hbi:(K:Int)+(rd.size:Int)≤20000:=by omega
    by_cases hk1:k≤300
    ·have hk1i:(k:Int)≤300:=by omega
     go_wp2_with fail
     go_roundg (nr - (k+1))
     case rel=>exact⟨k+1,K+rd.size,by omega,rfl,by go_num,by go_num,by omega,HB1⟩
     case measure=>omega
    ·have hk1i:(300:Int)<(k:Int):=by omega
     go_wp2_with fail
     go_ret
     exact⟨⟨_,rfl⟩,HB1.out⟩
   ·have hbi:(20000:Int)<(K:Int)+(rd.size:Int):=by omega
    go_wp2_with fail
    go_ret
    exact⟨⟨_,rfl⟩,HB1.out⟩
  ·have hki:(nr:Int)≤(k:Int):=by omega
   go_wp2_with fail
   go_ret
   exact⟨⟨_,rfl⟩,hB.out⟩
theorem rightH_zero:rightH Hd.zero=true:=by
 have h:(putGot (hdV Hd.zero)).2=0:=by decide +kernel
 have hs:shapedH Hd.zero=true:=by decide +kernel
 unfold rightH putH
 rw [if_pos hs,if_neg (fun hh=>hh h)]
 exact decide_eq_true h
set_option maxRecDepth 100000 in
set_option maxHeartbeats 1000000 in
theorem alive14_any (w:World) (htab:Lib.TabIs Tryz.prog w "internal/strconv.uint64pow10" .u64 Lib.pow10Tab):Calls Tryz.prog 21 #[] w fun e w'=>e = .returned (.bool true)∧Below w.heap.size w w':=by
 have hr:=Lib.hid (wright_any Hd.zero none 0 0 none 0 0 w ⟨⟨rfl,.inl rfl⟩,⟨rfl,.inl rfl⟩,Nat.le_refl _,Nat.zero_le _,Nat.zero_le _,fun r hr=>(by cases hr),Nat.zero_le _,(by unfold in63 Hd.zero; decide),fun x hx=>(by cases hx)⟩ htab true (Lib.hid rightH_zero.symm))
 clear htab
 unfold Hd.val Hd.zero at hr
 dsimp only at hr
 go_enter Tryz.func21,Tryz.ntmps21
 go_wp2_with fail
 refine hr.out.mono ?_
 rintro e w' ⟨rfl,hb⟩
 dsimp only
 go_wp2_with fail
 go_ret
 exact⟨rfl,hb⟩
end Go.Proofs.YtlpgbmaoenncjaaGreatDoor

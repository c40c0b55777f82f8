/-
  The walks of hornbooklaw21's alive and small.
-/
import Derived.Test.YtlpgbmaoenncjaaGreatDoorGen
import Derived.Maps.AppendAt
import Derived.Test.YtlpgbmaoenncjaaGreatDoorNmD
namespace Go.Proofs.YtlpgbmaoenncjaaGreatDoor
open Go.RowKit
set_option linter.unusedVariables false
set_option maxHeartbeats 1000000 in
theorem alive_any (w:World):Calls Tryz.prog 16 #[] w fun e w'=>e = .returned (.bool true)∧Below w.heap.size w w':=by
 have hsrc:Src (w.alloc (.cells #[.string ⟨#[97]⟩] 9)) (.slice (some ⟨w.heap.size,0,none⟩) 1 1) (strs [⟨#[97]⟩]) :=
  .inr ⟨_,1,1,rfl,rfl,Nat.le_refl _,cell_one_new w _ _⟩
 have hs:=Lib.hid (send_any (.slice none 0 0) _ [] [⟨#[97]⟩] _ (.inl ⟨rfl,rfl⟩) hsrc (by decide) (by decide))
 clear hsrc
 have e1:(([⟨#[97]⟩]:List ByteArray).length - roomOf ([]:List ByteArray).length ([⟨#[97]⟩]:List ByteArray).length:Nat)=0:=by decide
 have e2:([]++([⟨#[97]⟩]:List ByteArray).take (roomOf ([]:List ByteArray).length ([⟨#[97]⟩]:List ByteArray).length))=[⟨#[97]⟩]:=by rfl
 rw [e1,e2] at hs
 clear e1 e2
 go_enter Tryz.func16,Tryz.ntmps16
 go_wp2_with fail
 refine hs.out.mono ?_
 rintro e w1 ⟨a,n,c,rfl,hsl,hb,hfr,hnc⟩
 obtain rfl:n=1:=hsl.1
 have HB:=Lib.hid (below_then ((Below.refl _ w).alloc (Nat.le_refl _) _) hb (by simp))
 clear hsl hb hfr hnc
 go_wp2
 go_ret
 exact⟨rfl,HB.out⟩
set_option maxRecDepth 100000 in
set_option maxHeartbeats 1000000 in
theorem small_any (m:Ms) (ar:Option Addr) (nr cr:Nat) (av:Option Addr) (nv cv:Nat) (w:World) (h:MsAt w m ar nr cr av nv cv) (hsn:m.snap.size≤140737488355328) (hd:∀ r∈m.recs,r.data.size≤140737488355328) :
 Calls Tryz.prog 9 #[m.val ar nr cr av nv cv] w fun e w'=>(∃ b,e = .returned (.bool b))∧Below w.heap.size w w':=by
 obtain⟨kd,fr,ds,tm,ok,ix,lt,rs,cm,sn,vs⟩:=m
 unfold Ms.val
 dsimp only at *
 have HR:=Lib.hid (show rcE.Sl w ar nr rs from h.recs)
 have HN:=Lib.hid (show nr=rs.length from h.rlen)
 have HNR:=h.nr
 have HD:=Lib.hid hd
 have HB0:=Lib.hid ((Below.refl w.heap.size w).alloc (Nat.le_refl _) (.cells #[.int .i64 kd,.int .i64 fr,.int .i64 ds,.int .i64 tm,.bool ok,.int .i64 ix,.int .i64 lt,.slice ar nr cr,.int .i64 cm,.string sn,.slice av nv cv] 25))
 have HK0:Hid (Blk (w.alloc (.cells #[.int .i64 kd,.int .i64 fr,.int .i64 ds,.int .i64 tm,.bool ok,.int .i64 ix,.int .i64 lt,.slice ar nr cr,.int .i64 cm,.string sn,.slice av nv cv] 25)) w.heap.size 25 [.int .i64 kd,.int .i64 fr,.int .i64 ds,.int .i64 tm,.bool ok,.int .i64 ix,.int .i64 lt,.slice ar nr cr,.int .i64 cm,.string sn,.slice av nv cv]):=Lib.hid (heap_alloc_new w _)
 have x7:=HK0.out.cell (j:=7) rfl
 have x9:=HK0.out.cell (j:=9) rfl
 clear h hd
 obtain⟨K0,hK0⟩:∃ K0,K0=sn.size:=⟨_,rfl⟩
 rw [← hK0] at hsn
 replace hK0:=Lib.hid hK0
 go_enter Tryz.func9,Tryz.ntmps9
 go_wp2_with fail
 clear x7 x9
 go_loopg [3,4,5,12] nr (fun gk v3 v4 v5 i wr=>∃ k K:Nat,k≤nr∧gk=nr - k∧i = .int .i64 (k:Int)∧v3 = .int .i64 (K:Int)∧K≤140737488355328∧Hid (Below w.heap.size w wr))
 case atStart=>exact⟨0,K0,Nat.zero_le _,rfl,rfl,by rw [hK0.out],hsn,HB0⟩
 case round =>
  obtain⟨k,K,hk,rfl,rfl,rfl,hK,hB⟩:=hrel
  by_cases hkn:k<nr
  ·have hki:(k:Int)<(nr:Int):=by omega
   have hkl:k<rs.length:=by rw [← HN.out]; exact hkn
   obtain⟨b,off,rfl,hc⟩:=rc_at (HR.out.keep hB.out) (by omega)
   obtain⟨c0,c1,c2⟩:=hc k hkl
   have hdk:=HD.out _ (List.getElem_mem hkl)
   clear hc
   generalize rs[k]=r at *
   obtain⟨rt,rk,rd⟩:=r
   dsimp only at *
   have HK1:Hid (Blk (wr.alloc (.cells #[.int .i64 rt,.int .i64 rk,.string rd] 67)) wr.heap.size 67 [.int .i64 rt,.int .i64 rk,.string rd]):=Lib.hid (heap_alloc_new wr _)
   have HB1:=Lib.hid (hB.out.alloc hB.out.size (.cells #[.int .i64 rt,.int .i64 rk,.string rd] 67))
   have z2:=HK1.out.cell (j:=2) rfl
   by_cases hbig:K+rd.size≤200000
   ·have hbi:(K:Int)+(rd.size:Int)≤200000:=by omega
    by_cases hk1:k≤100
    ·have hk1i:(k:Int)≤100:=by omega
     go_wp2_with fail
     go_roundg (nr - (k+1))
     case rel=>exact⟨k+1,K+rd.size,by omega,rfl,by go_num,by go_num,by omega,HB1⟩
     case measure=>omega
    ·have hk1i:(100:Int)<(k:Int):=by omega
     go_wp2_with fail
     go_ret
     exact⟨⟨_,rfl⟩,HB1.out⟩
   ·have hbi:(200000:Int)<(K:Int)+(rd.size:Int):=by omega
    go_wp2_with fail
    go_ret
    exact⟨⟨_,rfl⟩,HB1.out⟩
  ·have hki:(nr:Int)≤(k:Int):=by omega
   go_wp2_with fail
   go_ret
   exact⟨⟨_,rfl⟩,hB.out⟩
end Go.Proofs.YtlpgbmaoenncjaaGreatDoor

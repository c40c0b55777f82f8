/-
  The walks of the references' Like and Ints: each tells whether two lists are one; only reads.
  Layer 14's law: small, alive; ref14.Like of the same state. (Written by wip/mkwal.py.)
  Records compared, and the reference's Like at any two states.
  The regions that write a change: the reference's Change, wal.Save.
  The walk of the reference's Change: the body of a change, and whether it fits.
  The walk of the reference's Save.
  The region of wal.Save that lays both logs in boxes.
-/
import Derived.Test.YtlpgbmaoenncjaaGreatDoorGen
import Derived.WalkKit
import Derived.WalkSpells
import Derived.WalkLawsBesides
import Derived.Test.YtlpgbmaoenncjaaGreatDoorWvAll
import Derived.Test.YtlpgbmaoenncjaaGreatDoorNmAll
import Derived.Test.YtlpgbmaoenncjaaGreatDoorWsOne
import Derived.Test.YtlpgbmaoenncjaaGreatDoorWsRest
import Derived.Test.YtlpgbmaoenncjaaGreatDoorRegV
import Derived.Test.YtlpgbmaoenncjaaGreatDoorWkA
namespace Go.Proofs.YtlpgbmaoenncjaaGreatDoor
open Go.RowKit
set_option linter.unusedVariables false
set_option maxHeartbeats 400000 in
theorem ints_uneq (a b:Option Addr) (n m c d:Nat) (w:World) (h:n≠m) :
 Calls Tryz.prog 48 #[.slice a n c,.slice b m d] w fun e w'=>e = .returned (.bool false)∧∃ k,w'=w.drewN k:=by
 have hne:((n:Int) != (m:Int))=true:=by rw [bne_iff_ne]; omega
 go_enter Tryz.func48,Tryz.ntmps48
 go_wp2
 go_ret
 exact⟨rfl,0,rfl⟩
set_option maxHeartbeats 400000 in
theorem ints_eq (a b:Option Addr) (n c d:Nat) (xs ys:List Int) (w:World) (h1:SlAt w a n (i64s xs)) (h2:SlAt w b n (i64s ys)) (hn:n≤9223372036854775807) (v:Bool) (hv:Hid (v=intsB xs ys)) :
 Calls Tryz.prog 48 #[.slice a n c,.slice b n d] w fun e w'=>e = .returned (.bool v)∧∃ k,w'=w.drewN k:=by
 by_cases h0:n=0
 ·subst h0
  have hx:xs=[]:=by have:=h1.1; rw [i64s_length] at this; exact List.eq_nil_of_length_eq_zero this.symm
  have hy:ys=[]:=by have:=h2.1; rw [i64s_length] at this; exact List.eq_nil_of_length_eq_zero this.symm
  subst hx hy
  go_enter Tryz.func48,Tryz.ntmps48
  go_wp2
  go_loop [5,13] (fun _ i=>i = .int .i64 0) (fun _ _=>0)
  case atStart=>rfl
  case round =>
   obtain rfl:=hrel
   go_wp2
   go_ret
   exact⟨ret_bool (by rw [hv.out,intsB_yes rfl]),0,rfl⟩
 ·obtain⟨hnx,b1,o1,rfl,hc1⟩:=h1.i64 (by omega)
  obtain⟨hny,b2,o2,rfl,hc2⟩:=h2.i64 (by omega)
  have HX:=Lib.hid hnx
  have HY:=Lib.hid hny
  have HC1:=Lib.hid hc1
  have HC2:=Lib.hid hc2
  clear hnx hny hc1 hc2 h1 h2
  have hne:((n:Int) != (n:Int))=false:=by simp
  go_enter Tryz.func48,Tryz.ntmps48
  go_wp2
  go_loopw [5,13] (fun _ i wr=>∃ k m:Nat,k≤n∧i = .int .i64 k∧wr=w.drewN m∧∀ j (h1:j<xs.length) (h2:j<ys.length),j<k→xs[j]=ys[j]) (fun _ i _=>n - (intOf i).toNat)
  case atStart=>exact⟨0,0,Nat.zero_le _,rfl,rfl,fun j _ _ h=>absurd h (Nat.not_lt_zero _)⟩
  case round =>
   obtain⟨k,m,hk,rfl,rfl,hall⟩:=hrel
   have HA:=Lib.hid hall
   clear hall
   by_cases hlt:k<n
   ·have hkx:k<xs.length:=by have:=HX.out; omega
    have hky:k<ys.length:=by have:=HY.out; omega
    have hcx:=HC1.out k hkx
    have hcy:=HC2.out k hky
    have hi1:(k:Int)<(n:Int):=by omega
    by_cases he:xs[k]=ys[k]
    ·have hall2:Hid (∀ j (h1:j<xs.length) (h2:j<ys.length),j<k+1→xs[j]=ys[j]):=Lib.hid fun j h1 h2 hj=>by
      by_cases hjk:j=k
      ·subst hjk; exact he
      ·exact HA.out j h1 h2 (by omega)
     rw [he] at hcx
     clear he
     generalize ys[k]=t at *
     have htt:(t != t)=false:=by simp
     go_wp2
     go_quiet (fail)
     go_wp2
     go_roundw
     case rel=>exact⟨k+1,_,by omega,by go_num,by first | rfl | exact World.drewN_drewN _ _ _,hall2.out⟩
     case measure=>simp [intOf]; omega
    ·have hfin:intsB xs ys=false:=intsB_no (fun e=>he (by subst e; rfl))
     have HF:=Lib.hid hfin
     have htt:(xs[k]==ys[k])=false:=beq_eq_false_iff_ne.2 he
     have htt2:(xs[k] != ys[k])=true:=bne_iff_ne.2 he
     clear hfin he
     generalize ys[k]=t at *
     generalize xs[k]=s at *
     go_wp2
     go_quiet (fail)
     go_wp2
     go_ret
     exact⟨ret_bool (by rw [hv.out,HF.out]),_,by first | rfl | exact World.drewN_drewN _ _ _⟩
   ·have hfin:intsB xs ys=true:=intsB_yes (list_ext_upto xs ys (by rw [← HX.out,← HY.out]) fun j h1 h2=>HA.out j h1 h2 (by have:=HX.out; omega))
    have HF:=Lib.hid hfin
    clear hfin
    go_wp2
    go_ret
    exact⟨ret_bool (by rw [hv.out,HF.out]),_,rfl⟩
theorem ints_any (a b:Option Addr) (n m c d:Nat) (xs ys:List Int) (w:World) (h1:SlAt w a n (i64s xs)) (h2:SlAt w b m (i64s ys)) (hn:n≤9223372036854775807) :
 Calls Tryz.prog 48 #[.slice a n c,.slice b m d] w fun e w'=>e = .returned (.bool (intsB xs ys))∧∃ k,w'=w.drewN k:=by
 by_cases h:n=m
 ·subst h; exact ints_eq a b n c d xs ys w h1 h2 hn _ rfl
 ·have:intsB xs ys=false:=intsB_no (fun e=>h (by subst e; rw [h1.1,h2.1]))
  rw [this]
  exact ints_uneq a b n m c d w h
end Go.Proofs.YtlpgbmaoenncjaaGreatDoor

namespace Go.Proofs.YtlpgbmaoenncjaaGreatDoor
open Go.RowKit
set_option linter.unusedVariables false
theorem rightH_zero:rightH Hd.zero=true:=by
 have h:(putGot (hdV Hd.zero)).2=0:=by decide +kernel
 have hs:shapedH Hd.zero=true:=by decide +kernel
 unfold rightH putH
 rw [if_pos hs,if_neg (fun hh=>hh h)]
 exact decide_eq_true h
set_option maxRecDepth 100000 in
set_option maxHeartbeats 1000000 in
theorem alive14_any (w:World) (htab:Lib.TabIs Tryz.prog w "internal/strconv.uint64pow10" .u64 Lib.pow10Tab):Calls Tryz.prog 21 #[] w fun e w'=>e = .returned (.bool true)∧Below w.heap.size w w':=by
 have hr:=Lib.hid (wright_any Hd.zero none 0 0 none 0 0 w ⟨⟨rfl,.inl rfl⟩,⟨rfl,.inl rfl⟩,Nat.le_refl _,Nat.zero_le _,Nat.zero_le _,fun r hr=>(by cases hr),Nat.zero_le _,(by unfold in63 Hd.zero; decide),fun x hx=>(by cases hx)⟩ htab true (Lib.hid rightH_zero.symm))
 clear htab
 unfold Hd.val Hd.zero at hr
 dsimp only at hr
 go_enter Tryz.func21,Tryz.ntmps21
 go_wp2_with fail
 refine hr.out.mono ?_
 rintro e w' ⟨rfl,hb⟩
 dsimp only
 go_wp2_with fail
 go_ret
 exact⟨rfl,hb⟩
set_option maxRecDepth 100000 in
set_option maxHeartbeats 2000000 in
theorem like14_same (h:Hd) (ar:Option Addr) (nr cr:Nat) (av:Option Addr) (nv cv:Nat) (ar':Option Addr) (nr' cr':Nat) (av':Option Addr) (nv' cv':Nat) (w:World)
 (H:HdAt w h ar nr cr av nv cv) (H':HdAt w h ar' nr' cr' av' nv' cv') :
 Calls Tryz.prog 27 #[h.val ar nr cr av nv cv,h.val ar' nr' cr' av' nv' cv'] w fun e w'=>e = .returned (.bool true)∧Below w.heap.size w w':=by
 have hi:=Lib.hid (fun (W:World) (hw:Below w.heap.size w W)=>ints_same av av' nv cv nv' cv' h.voters W (H.voters.keep hw) (H'.voters.keep hw) H.nv)
 have hnr:nr=nr':=by rw [H.rlen,H'.rlen]
 have hmx:=H.nr
 have HN:=Lib.hid H.rlen
 obtain⟨tm,vt,bs,bt,rs,sn,vs⟩:=h
 unfold Hd.val
 dsimp only at *
 have HR:=Lib.hid (show rcE.Sl w ar nr rs from H.recs)
 have HR':=Lib.hid (show rcE.Sl w ar' nr' rs from H'.recs)
 clear H H'
 subst hnr
 have e0:(tm != tm)=false:=by simp
 have e1:(vt != vt)=false:=by simp
 have e2:(bs != bs)=false:=by simp
 have e3:(bt != bt)=false:=by simp
 have e4:((nr:Int) != (nr:Int))=false:=by simp
 have e5:(sn.toList != sn.toList)=false:=by simp
 have HA1:=Lib.hid ((Below.refl w.heap.size w).alloc (Nat.le_refl _) (.cells #[.int .i64 tm,.int .i64 vt,.int .i64 bs,.int .i64 bt,.slice ar nr cr,.string sn,.slice av nv cv] 42))
 have HA2:=Lib.hid (HA1.out.alloc HA1.out.size (.cells #[.int .i64 tm,.int .i64 vt,.int .i64 bs,.int .i64 bt,.slice ar' nr cr',.string sn,.slice av' nv' cv'] 42))
 have HX6:Hid (Blk ((w.alloc (.cells #[.int .i64 tm,.int .i64 vt,.int .i64 bs,.int .i64 bt,.slice ar nr cr,.string sn,.slice av nv cv] 42)).alloc (.cells #[.int .i64 tm,.int .i64 vt,.int .i64 bs,.int .i64 bt,.slice ar' nr cr',.string sn,.slice av' nv' cv'] 42)) w.heap.size 42 [.int .i64 tm,.int .i64 vt,.int .i64 bs,.int .i64 bt,.slice ar nr cr,.string sn,.slice av nv cv]):=Lib.hid (Blk.alloc (heap_alloc_new w _) _)
 have HX7:Hid (Blk ((w.alloc (.cells #[.int .i64 tm,.int .i64 vt,.int .i64 bs,.int .i64 bt,.slice ar nr cr,.string sn,.slice av nv cv] 42)).alloc (.cells #[.int .i64 tm,.int .i64 vt,.int .i64 bs,.int .i64 bt,.slice ar' nr cr',.string sn,.slice av' nv' cv'] 42)) (w.heap.size+1) 42 [.int .i64 tm,.int .i64 vt,.int .i64 bs,.int .i64 bt,.slice ar' nr cr',.string sn,.slice av' nv' cv']):=Lib.hid (by
  have hz:=heap_alloc_new (w.alloc (.cells #[.int .i64 tm,.int .i64 vt,.int .i64 bs,.int .i64 bt,.slice ar nr cr,.string sn,.slice av nv cv] 42)) (.cells #[.int .i64 tm,.int .i64 vt,.int .i64 bs,.int .i64 bt,.slice ar' nr cr',.string sn,.slice av' nv' cv'] 42)
  rw [World.size_alloc] at hz
  exact hz)
 have hnf:=neqRec
 have x0:=HX6.out.cell (j:=0) rfl; have x1:=HX6.out.cell (j:=1) rfl; have x2:=HX6.out.cell (j:=2) rfl; have x3:=HX6.out.cell (j:=3) rfl; have x4:=HX6.out.cell (j:=4) rfl; have x5:=HX6.out.cell (j:=5) rfl; have x6:=HX6.out.cell (j:=6) rfl
 have y0:=HX7.out.cell (j:=0) rfl; have y1:=HX7.out.cell (j:=1) rfl; have y2:=HX7.out.cell (j:=2) rfl; have y3:=HX7.out.cell (j:=3) rfl; have y4:=HX7.out.cell (j:=4) rfl; have y5:=HX7.out.cell (j:=5) rfl; have y6:=HX7.out.cell (j:=6) rfl
 go_enter Tryz.func27,Tryz.ntmps27
 go_wp2_with fail
 refine (hi.out _ HA2.out).mono ?_
 rintro e w1 ⟨rfl,hb1⟩
 have HA3:=Lib.hid (below_then HA2.out hb1 HA2.out.size)
 have HY6:=Lib.hid (HX6.out.keep hb1)
 have HY7:=Lib.hid (HX7.out.keep hb1)
 have z4:=HY6.out.cell (j:=4) rfl
 have u4:=HY7.out.cell (j:=4) rfl
 have hs1:=HA3.out.size
 have HW1:Hid (w.heap.size+1<w1.heap.size):=Lib.hid (lt_of_block HY7.out)
 clear hb1 HX6 HX7 x0 x1 x2 x3 x4 x5 x6 y0 y1 y2 y3 y4 y5 y6 hi e0 e1 e2 e3 e5
 dsimp only
 go_wp2_with fail
 clear z4 u4
 go_loopg [5,66] nr (fun gk v5 i wr=>∃ k:Nat,k≤nr∧gk=nr - k∧i = .int .i64 (k:Int)∧Hid (Below w1.heap.size w1 wr))
 case atStart=>exact⟨0,Nat.zero_le _,rfl,rfl,Lib.hid (Below.refl _ _)⟩
 case round =>
  obtain⟨k,hk,rfl,rfl,hB⟩:=hrel
  have HBB:=Lib.hid (below_then HA3.out hB.out HA3.out.size)
  by_cases hkn:k<nr
  ·have hki:(k:Int)<(nr:Int):=by omega
   have hkl:k<rs.length:=by rw [← HN.out]; exact hkn
   have z4:=(HY6.out.keep hB.out).cell (j:=4) rfl
   have u4:=(HY7.out.keep hB.out).cell (j:=4) rfl
   obtain⟨b,off,rfl,hc⟩:=rc_at (HR.out.keep HBB.out) (by omega)
   obtain⟨b',off',rfl,hc'⟩:=rc_at (HR'.out.keep HBB.out) (by omega)
   obtain⟨c0,c1,c2⟩:=hc k hkl
   obtain⟨d0,d1,d2⟩:=hc' k hkl
   clear hc hc'
   generalize rs[k]=r at *
   obtain⟨rt,rk,rd⟩:=r
   dsimp only at *
   go_wp2_with fail
   go_quiet (fail)
   go_wp2_with fail
   go_roundg (nr - (k+1))
   case rel=>exact⟨k+1,by omega,rfl,by go_num,Lib.hid (below_drewN hB.out _)⟩
   case measure=>omega
  ·have hki:(nr:Int)≤(k:Int):=by omega
   go_wp2_with fail
   go_ret
   exact⟨rfl,HBB.out⟩
end Go.Proofs.YtlpgbmaoenncjaaGreatDoor

namespace Go.Proofs.YtlpgbmaoenncjaaGreatDoor
open Go.RowKit Go.BigFrame
set_option linter.unusedVariables false
set_option maxRecDepth 100000
theorem toList_eq_iff (a b:ByteArray):(a.toList==b.toList)=decide (a=b):=by
 by_cases h:a=b
 ·subst h; simp
 ·rw [toList_ne h,decide_eq_false h]
theorem eqRec_run (x y:Int) (z:ByteArray) (x' y':Int) (z':ByteArray) (w:World):(binOp .eql 67 (.agg #[.int .i64 x,.int .i64 y,.string z]) (.agg #[.int .i64 x',.int .i64 y',.string z'])).run Tryz.prog w = .ok (.bool (x==x'&&y==y'&&z.toList==z'.toList)) w:=by
 have u3:=Tryz.underlying9
 have u4:=Tryz.underlying3
 have hS:Tryz.prog.underlying 67 = some (.struct (Tryz.prog.fieldsOf 67)):=by kernel_rfl
 have hp:Tryz.prog.stoodInHeld 67 = false:=by kernel_rfl
 rw [run_eql_struct,show (10000:Nat)=9999+1 from rfl,run_equalIn_agg w 9999 67 _ _ hS hp]
 simp only [Program.fieldsOf,Tryz.underlying67]
 by_cases h1:(x==x')=true
 ·by_cases h2:(y==y')=true
  ·go_simp
   by_cases h3:z.toList=z'.toList <;> simp [h3]
  ·go_simp
 ·go_simp
theorem neqRec_run (x y:Int) (z:ByteArray) (x' y':Int) (z':ByteArray) (w:World):(binOp .neq 67 (.agg #[.int .i64 x,.int .i64 y,.string z]) (.agg #[.int .i64 x',.int .i64 y',.string z'])).run Tryz.prog w = .ok (.bool (!(x==x'&&y==y'&&z.toList==z'.toList))) w:=by
 have u3:=Tryz.underlying9
 have u4:=Tryz.underlying3
 have hS:Tryz.prog.underlying 67 = some (.struct (Tryz.prog.fieldsOf 67)):=by kernel_rfl
 have hp:Tryz.prog.stoodInHeld 67 = false:=by kernel_rfl
 rw [run_neq_struct,show (10000:Nat)=9999+1 from rfl,run_equalIn_agg w 9999 67 _ _ hS hp]
 simp only [Program.fieldsOf,Tryz.underlying67]
 by_cases h1:(x==x')=true
 ·by_cases h2:(y==y')=true
  ·go_simp
   by_cases h3:z.toList=z'.toList <;> simp [h3]
  ·go_simp
 ·go_simp
theorem rc_eq_iff (x y:Int) (z:ByteArray) (x' y':Int) (z':ByteArray):(x==x'&&y==y'&&z.toList==z'.toList)=decide ((⟨x,y,z⟩:Rc)=⟨x',y',z'⟩):=by
 by_cases h:(⟨x,y,z⟩:Rc)=⟨x',y',z'⟩
 ·obtain⟨rfl,rfl,rfl⟩:=Rc.mk.inj h
  simp
 ·rw [decide_eq_false h]
  cases hc:(x==x'&&y==y'&&z.toList==z'.toList) with
  | false=>rfl
  | true =>
    rw [Bool.and_eq_true,Bool.and_eq_true,toList_eq_iff] at hc
    exact absurd (by rw [show x=x' by simpa using hc.1.1,show y=y' by simpa using hc.1.2,show z=z' from of_decide_eq_true hc.2]) h
theorem eqRec_any (r s:Rc) (w:World):(binOp .eql 67 (.agg #[.int .i64 r.term,.int .i64 r.kind,.string r.data]) (.agg #[.int .i64 s.term,.int .i64 s.kind,.string s.data])).run Tryz.prog w = .ok (.bool (decide (r=s))) w:=by
 rw [eqRec_run,rc_eq_iff]
theorem neqRec_any (r s:Rc) (w:World):(binOp .neq 67 (.agg #[.int .i64 r.term,.int .i64 r.kind,.string r.data]) (.agg #[.int .i64 s.term,.int .i64 s.kind,.string s.data])).run Tryz.prog w = .ok (.bool (!decide (r=s))) w:=by
 rw [neqRec_run,rc_eq_iff]
set_option maxHeartbeats 2000000 in
theorem rlike14_any (h h1:Hd) (ar:Option Addr) (nr cr:Nat) (av:Option Addr) (nv cv:Nat) (ar1:Option Addr) (nr1 cr1:Nat) (av1:Option Addr) (nv1 cv1:Nat) (w:World)
 (H:HdAt w h ar nr cr av nv cv) (H1:HdAt w h1 ar1 nr1 cr1 av1 nv1 cv1) (v:Bool) (hv:Hid (v=decide (sameH h h1))) :
 Calls Tryz.prog 27 #[h.val ar nr cr av nv cv,h1.val ar1 nr1 cr1 av1 nv1 cv1] w fun e w'=>e = .returned (.bool v)∧Below w.heap.size w w':=by
 have hi:=Lib.hid (fun (W:World) (hw:Below w.heap.size w W)=>ints_any av av1 nv nv1 cv cv1 h.voters h1.voters W (H.voters.keep hw) (H1.voters.keep hw) (by have:=H.nv; omega))
 have hmx:=H.nr
 have HN:=Lib.hid H.rlen
 have HN1:=Lib.hid H1.rlen
 have HE:Hid (sameH h h1↔_):=Lib.hid (Iff.rfl)
 obtain⟨tm,vt,bs,bt,rs,sn,vs⟩:=h
 obtain⟨tm1,vt1,bs1,bt1,rs1,sn1,vs1⟩:=h1
 unfold Hd.val
 unfold sameH at hv
 dsimp only at *
 have HR:=Lib.hid (show rcE.Sl w ar nr rs from H.recs)
 have HR1:=Lib.hid (show rcE.Sl w ar1 nr1 rs1 from H1.recs)
 clear H H1 HE
 have HA1:=Lib.hid ((Below.refl w.heap.size w).alloc (Nat.le_refl _) (.cells #[.int .i64 tm,.int .i64 vt,.int .i64 bs,.int .i64 bt,.slice ar nr cr,.string sn,.slice av nv cv] 42))
 have HA2:=Lib.hid (HA1.out.alloc HA1.out.size (.cells #[.int .i64 tm1,.int .i64 vt1,.int .i64 bs1,.int .i64 bt1,.slice ar1 nr1 cr1,.string sn1,.slice av1 nv1 cv1] 42))
 have HX6:Hid (Blk ((w.alloc (.cells #[.int .i64 tm,.int .i64 vt,.int .i64 bs,.int .i64 bt,.slice ar nr cr,.string sn,.slice av nv cv] 42)).alloc (.cells #[.int .i64 tm1,.int .i64 vt1,.int .i64 bs1,.int .i64 bt1,.slice ar1 nr1 cr1,.string sn1,.slice av1 nv1 cv1] 42)) w.heap.size 42 [.int .i64 tm,.int .i64 vt,.int .i64 bs,.int .i64 bt,.slice ar nr cr,.string sn,.slice av nv cv]):=Lib.hid (Blk.alloc (heap_alloc_new w _) _)
 have HX7:Hid (Blk ((w.alloc (.cells #[.int .i64 tm,.int .i64 vt,.int .i64 bs,.int .i64 bt,.slice ar nr cr,.string sn,.slice av nv cv] 42)).alloc (.cells #[.int .i64 tm1,.int .i64 vt1,.int .i64 bs1,.int .i64 bt1,.slice ar1 nr1 cr1,.string sn1,.slice av1 nv1 cv1] 42)) (w.heap.size+1) 42 [.int .i64 tm1,.int .i64 vt1,.int .i64 bs1,.int .i64 bt1,.slice ar1 nr1 cr1,.string sn1,.slice av1 nv1 cv1]):=Lib.hid (by
  have hz:=heap_alloc_new (w.alloc (.cells #[.int .i64 tm,.int .i64 vt,.int .i64 bs,.int .i64 bt,.slice ar nr cr,.string sn,.slice av nv cv] 42)) (.cells #[.int .i64 tm1,.int .i64 vt1,.int .i64 bs1,.int .i64 bt1,.slice ar1 nr1 cr1,.string sn1,.slice av1 nv1 cv1] 42)
  rw [World.size_alloc] at hz
  exact hz)
 have x0:=HX6.out.cell (j:=0) rfl; have x1:=HX6.out.cell (j:=1) rfl; have x2:=HX6.out.cell (j:=2) rfl; have x3:=HX6.out.cell (j:=3) rfl; have x4:=HX6.out.cell (j:=4) rfl; have x5:=HX6.out.cell (j:=5) rfl; have x6:=HX6.out.cell (j:=6) rfl
 have y0:=HX7.out.cell (j:=0) rfl; have y1:=HX7.out.cell (j:=1) rfl; have y2:=HX7.out.cell (j:=2) rfl; have y3:=HX7.out.cell (j:=3) rfl; have y4:=HX7.out.cell (j:=4) rfl; have y5:=HX7.out.cell (j:=5) rfl; have y6:=HX7.out.cell (j:=6) rfl
 by_cases c0:tm=tm1
 rotate_left
 ·skip
  have HV:Hid (v=false):=Lib.hid (by rw [hv.out]; exact decide_eq_false (fun h=>c0 h.1))
  have e0:(tm != tm1)=true:=by simpa using c0
  clear hv c0
  go_enter Tryz.func27,Tryz.ntmps27
  go_wp2_with fail
  go_ret
  exact⟨ret_bool (by rw [HV.out]),HA2.out⟩
 have e0:(tm != tm1)=false:=by simp [c0]
 have C0:=Lib.hid c0
 clear c0
 by_cases c1:vt=vt1
 rotate_left
 ·skip
  have HV:Hid (v=false):=Lib.hid (by rw [hv.out]; exact decide_eq_false (fun h=>c1 h.2.1))
  have e1:(vt != vt1)=true:=by simpa using c1
  clear hv c1
  go_enter Tryz.func27,Tryz.ntmps27
  go_wp2_with fail
  go_ret
  exact⟨ret_bool (by rw [HV.out]),HA2.out⟩
 have e1:(vt != vt1)=false:=by simp [c1]
 have C1:=Lib.hid c1
 clear c1
 by_cases c2:sn=sn1
 rotate_left
 ·skip
  have HV:Hid (v=false):=Lib.hid (by rw [hv.out]; exact decide_eq_false (fun h=>c2 h.2.2.1))
  have e2:¬ sn.toList=sn1.toList:=by simpa using (toList_ne c2)
  clear hv c2
  go_enter Tryz.func27,Tryz.ntmps27
  go_wp2_with fail
  go_ret
  exact⟨ret_bool (by rw [HV.out]),HA2.out⟩
 subst c2
 have c2:sn=sn:=rfl
 have e2:True:=trivial
 have C2:=Lib.hid c2
 clear c2
 by_cases c3:bs=bs1
 rotate_left
 ·skip
  have HV:Hid (v=false):=Lib.hid (by rw [hv.out]; exact decide_eq_false (fun h=>c3 h.2.2.2.1))
  have e3:(bs != bs1)=true:=by simpa using c3
  clear hv c3
  go_enter Tryz.func27,Tryz.ntmps27
  go_wp2_with fail
  go_ret
  exact⟨ret_bool (by rw [HV.out]),HA2.out⟩
 have e3:(bs != bs1)=false:=by simp [c3]
 have C3:=Lib.hid c3
 clear c3
 by_cases c4:bt=bt1
 rotate_left
 ·skip
  have HV:Hid (v=false):=Lib.hid (by rw [hv.out]; exact decide_eq_false (fun h=>c4 h.2.2.2.2.1))
  have e4:(bt != bt1)=true:=by simpa using c4
  clear hv c4
  go_enter Tryz.func27,Tryz.ntmps27
  go_wp2_with fail
  go_ret
  exact⟨ret_bool (by rw [HV.out]),HA2.out⟩
 have e4:(bt != bt1)=false:=by simp [c4]
 have C4:=Lib.hid c4
 clear c4
 by_cases c5:nr=nr1
 rotate_left
 ·skip
  have HV:Hid (v=false):=Lib.hid (by rw [hv.out]; exact decide_eq_false (fun h=>c5 (by have h3:=HN.out; have h4:=HN1.out; have h5:=h.2.2.2.2.2.1; rw [h5] at h3; omega)))
  have e5:((nr:Int) != (nr1:Int))=true:=by rw [bne_iff_ne]; omega
  clear hv c5
  go_enter Tryz.func27,Tryz.ntmps27
  go_wp2_with fail
  go_ret
  exact⟨ret_bool (by rw [HV.out]),HA2.out⟩
 have e5:((nr:Int) != (nr1:Int))=false:=by simp [c5]
 subst c5
 go_enter Tryz.func27,Tryz.ntmps27
 go_wp2_with fail
 refine (hi.out _ HA2.out).mono ?_
 rintro e w1 ⟨rfl,kd,rfl⟩
 dsimp only
 by_cases c6:vs=vs1
 rotate_left
 ·have HV:Hid (v=false):=Lib.hid (by rw [hv.out]; exact decide_eq_false (fun h=>c6 h.2.2.2.2.2.2))
  rw [intsB_no c6]
  clear hv c6
  go_wp2_with fail
  go_ret
  exact⟨ret_bool (by rw [HV.out]),below_drewN HA2.out _⟩
 rw [intsB_yes c6]
 have HV:Hid (v=decide (rs=rs1)):=Lib.hid (by
  rw [hv.out]
  exact decide_eq_decide.2 ⟨fun h=>h.2.2.2.2.2.1,fun h=>⟨C0.out,C1.out,C2.out,C3.out,C4.out,h,c6⟩⟩)
 have HA3:=Lib.hid (below_drewN HA2.out kd)
 have HY6:=Lib.hid (HX6.out.keep (below_drewN (Below.refl _ _) kd))
 have HY7:=Lib.hid (HX7.out.keep (below_drewN (Below.refl _ _) kd))
 clear hv C0 C1 C2 C3 C4 c6 x0 y0 x1 y1 x2 y2 x3 y3 x4 y4 x5 y5 x6 y6 e0 e1 e2 e3 e4 HX6 HX7 hi HA1 HA2
 generalize ((w.alloc (.cells #[.int .i64 tm,.int .i64 vt,.int .i64 bs,.int .i64 bt,.slice ar nr cr,.string sn,.slice av nv cv] 42)).alloc (.cells #[.int .i64 tm1,.int .i64 vt1,.int .i64 bs1,.int .i64 bt1,.slice ar1 nr cr1,.string sn,.slice av1 nv1 cv1] 42)).drewN kd=w1 at *
 have z4:=HY6.out.cell (j:=4) rfl
 have u4:=HY7.out.cell (j:=4) rfl
 have HW1:Hid (w.heap.size+1<w1.heap.size):=Lib.hid (lt_of_block HY7.out)
 go_wp2_with fail
 clear z4 u4
 go_loopg [5,66] nr (fun gk v5 i wr=>∃ k:Nat,k≤nr∧gk=nr - k∧i = .int .i64 (k:Int)∧Hid (Below w1.heap.size w1 wr)∧Hid (∀ j (h1:j<rs.length) (h2:j<rs1.length),j<k→rs[j]=rs1[j]))
 case atStart=>exact⟨0,Nat.zero_le _,rfl,rfl,Lib.hid (Below.refl _ _),Lib.hid (fun j _ _ h=>absurd h (Nat.not_lt_zero _))⟩
 case round =>
  obtain⟨k,hk,rfl,rfl,hB,hall⟩:=hrel
  have HBB:=Lib.hid (below_then HA3.out hB.out HA3.out.size)
  by_cases hkn:k<nr
  ·have hki:(k:Int)<(nr:Int):=by omega
   have hkl:k<rs.length:=by rw [← HN.out]; exact hkn
   have hkl1:k<rs1.length:=by rw [← HN1.out]; exact hkn
   have z4:=(HY6.out.keep hB.out).cell (j:=4) rfl
   have u4:=(HY7.out.keep hB.out).cell (j:=4) rfl
   obtain⟨b,off,rfl,hc⟩:=rc_at (HR.out.keep HBB.out) (by omega)
   obtain⟨b',off',rfl,hc'⟩:=rc_at (HR1.out.keep HBB.out) (by omega)
   obtain⟨d0,d1,d2⟩:=hc k hkl
   obtain⟨f0,f1,f2⟩:=hc' k hkl1
   clear hc hc'
   by_cases hq:rs[k]=rs1[k]
   ·have hall2:Hid (∀ j (h1:j<rs.length) (h2:j<rs1.length),j<k+1→rs[j]=rs1[j]):=Lib.hid fun j h1 h2 h3=>by
     by_cases hjk:j=k
     ·subst hjk; exact hq
     ·exact hall.out j h1 h2 (by omega)
    rw [← hq] at f0 f1 f2
    have hnf:=neqRec
    clear hq hall
    generalize rs[k]=r at *
    obtain⟨rt,rk,rd⟩:=r
    dsimp only at *
    go_wp2_with fail
    go_quiet (fail)
    go_wp2_with fail
    go_roundg (nr - (k+1))
    case rel=>exact⟨k+1,by omega,rfl,by go_num,Lib.hid (below_drewN hB.out _),hall2⟩
    case measure=>omega
   ·have HF:Hid (v=false):=Lib.hid (by rw [HV.out]; exact decide_eq_false (fun e=>hq (by subst e; rfl)))
    have hnf:=fun w=>neqRec_any rs[k] rs1[k] w
    rw [decide_eq_false hq] at hnf
    clear hq hall HV
    generalize rs[k]=r at *
    generalize rs1[k]=s at *
    obtain⟨rt,rk,rd⟩:=r
    obtain⟨st,sk,sd⟩:=s
    dsimp only [Bool.not_false] at *
    go_wp2_with fail
    go_quiet (fail)
    go_wp2_with fail
    go_ret
    exact⟨ret_bool (by rw [HF.out]),below_drewN HBB.out _⟩
  ·have hki:(nr:Int)≤(k:Int):=by omega
   have HF:Hid (v=true):=Lib.hid (by
    rw [HV.out]
    exact decide_eq_true (list_ext_upto rs rs1 (by rw [← HN.out,← HN1.out]) fun j h1 h2=>hall.out j h1 h2 (by have:=HN.out; omega)))
   clear HV hall
   go_wp2_with fail
   go_ret
   exact⟨ret_bool (by rw [HF.out]),HBB.out⟩
end Go.Proofs.YtlpgbmaoenncjaaGreatDoor

namespace Go.Proofs.YtlpgbmaoenncjaaGreatDoor
open Go.RowKit
set_option linter.unusedVariables false
set_option maxRecDepth 100000
def wcgT (BH BL:Nat) (tm vo ba:Int) (k:Nat) (M:Int) (br:Option Addr) (nb cb:Nat) (sr:Option Addr) (sn sc:Nat) (rs:List Rc) (P1:ByteArray) (P2:Int) (w1:World):Nat→Value→World→Prop
 | 0,v,w=>v = .pointer (some ⟨BH,0,none⟩)
 | 1,v,w=>v = .int .i64 tm
 | 2,v,w=>v = .agg #[.int .i64 1,.int .i64 tm,.string ⟨#[]⟩,.slice none 0 0]
 | 3,v,w=>v = .pointer (some ⟨BH,1,none⟩)
 | 4,v,w=>v = .int .i64 vo
 | 5,v,w=>v = .agg #[.int .i64 1,.int .i64 vo,.string ⟨#[]⟩,.slice none 0 0]
 | 6,v,w=>v = .pointer (some ⟨BL,0,none⟩)
 | 7,v,w=>v = .int .i64 ba
 | 8,v,w=>v = .int .i64 (k:Int)
 | 9,v,w=>v = .int .i64 M
 | 10,v,w=>v = .agg #[.int .i64 1,.int .i64 M,.string ⟨#[]⟩,.slice none 0 0]
 | 11,v,w=>v = .pointer (some ⟨BL,2,none⟩)
 | 12,v,w=>v = .slice br nb cb
 | 13,v,w=>v = .int .i64 (k:Int)
 | 14,v,w=>v = .slice sr sn sc
 | 15,v,w=>∃ ra rc,v = .agg #[.int .i64 3,.int .i64 0,.string ⟨#[]⟩,.slice ra sn rc]∧V.At w (fun p=>w1.heap.size≤p∧p<w.heap.size) (listV (rs.map recV)) [.int .i64 3,.int .i64 0,.string ⟨#[]⟩,.slice ra sn rc]
 | 16,v,w=>∃ ra rc c,v = .slice (some ⟨c,0,none⟩) 4 4∧(V.At w (fun p=>w1.heap.size≤p∧p<w.heap.size) (listV (rs.map recV)) [.int .i64 3,.int .i64 0,.string ⟨#[]⟩,.slice ra sn rc])∧w1.heap.size≤c∧w.heap[c]? = some (.cells #[.int .i64 1,.int .i64 tm,.string ⟨#[]⟩,.slice none 0 0,.int .i64 1,.int .i64 vo,.string ⟨#[]⟩,.slice none 0 0,.int .i64 1,.int .i64 M,.string ⟨#[]⟩,.slice none 0 0,.int .i64 3,.int .i64 0,.string ⟨#[]⟩,.slice ra sn rc] 70 (0,0))
 | 17,v,w=>∃ ra rc c,v = .agg #[.int .i64 3,.int .i64 0,.string ⟨#[]⟩,.slice (some ⟨c,0,none⟩) 4 4]∧(V.At w (fun p=>w1.heap.size≤p∧p<w.heap.size) (listV (rs.map recV)) [.int .i64 3,.int .i64 0,.string ⟨#[]⟩,.slice ra sn rc])∧w1.heap.size≤c∧w.heap[c]? = some (.cells #[.int .i64 1,.int .i64 tm,.string ⟨#[]⟩,.slice none 0 0,.int .i64 1,.int .i64 vo,.string ⟨#[]⟩,.slice none 0 0,.int .i64 1,.int .i64 M,.string ⟨#[]⟩,.slice none 0 0,.int .i64 3,.int .i64 0,.string ⟨#[]⟩,.slice ra sn rc] 70 (0,0))
 | 18,v,w=>v = .tuple #[.string P1,.int .i64 P2]
 | 19,v,w=>v = .tuple #[.string P1,.int .i64 P2]
 | 20,v,w=>v = .string P1
 | 21,v,w=>v = .int .i64 P2
 | 22,v,w=>v = .string P1
 | 23,v,w=>v = .int .i64 P2
 | _,_,_=>True
def wcgD:Nat→List Nat
 | _=>[]
theorem wcg_keep (BH BL:Nat) (tm vo ba:Int) (k:Nat) (M:Int) (br:Option Addr) (nb cb:Nat) (sr:Option Addr) (sn sc:Nat) (rs:List Rc) (P1:ByteArray) (P2:Int) (w1:World):∀ (j:Nat) (u:Value) (w w':World),Below w.heap.size w w'→(wcgT BH BL tm vo ba k M br nb cb sr sn sc rs P1 P2 w1) j u w→(wcgT BH BL tm vo ba k M br nb cb sr sn sc rs P1 P2 w1) j u w'
 | 15,u,w,w',hb,h=>by obtain⟨ra,rc,rfl,h1⟩:=h; exact⟨ra,rc,rfl,V.At.move (fun p hp=>⟨hp.1,Nat.lt_of_lt_of_le hp.2 hb.size⟩) (fun p hp=>hb.block p hp.2) _ _ h1⟩
 | 16,u,w,w',hb,h=>by obtain⟨ra,rc,c,rfl,h1,h2,h3⟩:=h; exact⟨ra,rc,c,rfl,V.At.move (fun p hp=>⟨hp.1,Nat.lt_of_lt_of_le hp.2 hb.size⟩) (fun p hp=>hb.block p hp.2) _ _ h1,h2,(hb.block _ (lt_of_block h3)).trans h3⟩
 | 17,u,w,w',hb,h=>by obtain⟨ra,rc,c,rfl,h1,h2,h3⟩:=h; exact⟨ra,rc,c,rfl,V.At.move (fun p hp=>⟨hp.1,Nat.lt_of_lt_of_le hp.2 hb.size⟩) (fun p hp=>hb.block p hp.2) _ _ h1,h2,(hb.block _ (lt_of_block h3)).trans h3⟩
 | 0,u,w,w',hb,h=>h
 | 1,u,w,w',hb,h=>h
 | 2,u,w,w',hb,h=>h
 | 3,u,w,w',hb,h=>h
 | 4,u,w,w',hb,h=>h
 | 5,u,w,w',hb,h=>h
 | 6,u,w,w',hb,h=>h
 | 7,u,w,w',hb,h=>h
 | 8,u,w,w',hb,h=>h
 | 9,u,w,w',hb,h=>h
 | 10,u,w,w',hb,h=>h
 | 11,u,w,w',hb,h=>h
 | 12,u,w,w',hb,h=>h
 | 13,u,w,w',hb,h=>h
 | 14,u,w,w',hb,h=>h
 | 18,u,w,w',hb,h=>h
 | 19,u,w,w',hb,h=>h
 | 20,u,w,w',hb,h=>h
 | 21,u,w,w',hb,h=>h
 | 22,u,w,w',hb,h=>h
 | 23,u,w,w',hb,h=>h
 | _+24,u,w,w',hb,h=>trivial
set_option maxHeartbeats 4000000 in
theorem wcg_steps (BH BL:Nat) (tm vo ba:Int) (k:Nat) (M:Int) (br:Option Addr) (nb cb:Nat) (sr:Option Addr) (sn sc:Nat) (rs:List Rc) (P1:ByteArray) (P2:Int) (w1:World) (hBH:BH<w1.heap.size) (hBH0:w1.cell? ⟨BH,0,none⟩=some (.int .i64 tm)) (hBH1:w1.cell? ⟨BH,1,none⟩=some (.int .i64 vo)) (hBL:BL<w1.heap.size) (hBL0:w1.cell? ⟨BL,0,none⟩=some (.int .i64 ba)) (hBL2:w1.cell? ⟨BL,2,none⟩=some (.slice br nb cb)) (hadd:IntKind.i64.wrap (ba+(k:Int))=M) (hcut:∀ w,(Instr.sliceAt 22 (.slice br nb cb) (some (.int .i64 (k:Int))) none none).run Tryz.prog w = .ok (.slice sr sn sc) w) (hrs:rcE.Sl w1 sr sn rs) (hnr:sn≤200) (hput:∀ w cs,Below w1.heap.size w1 w→V.At w (fun p=>p<w.heap.size) (listV [numV tm,numV vo,numV M,listV (rs.map recV)]) cs→Calls Tryz.prog 36 #[.agg cs.toArray] w (fun e w'=>e = .returned (.tuple #[.string P1,.int .i64 P2])∧Below w.heap.size w w')) {a:Act}(hs:a.tmps.size=176) (b5:a.eval (.tmp 5) = .pointer (some ⟨BH,0,none⟩)) (b10:a.eval (.tmp 10) = .int .i64 (k:Int)) (b9:a.eval (.tmp 9) = .pointer (some ⟨BL,0,none⟩)):∀ i o,(regOf Tryz.f19 13)[i]? = some o→StepOk Tryz.prog (regOf Tryz.f19 13) a (fun w=>Below w1.heap.size w1 w) (wcgT BH BL tm vo ba k M br nb cb sr sn sc rs P1 P2 w1) wcgD i o:=by
 have hz:∀ t,Nat.blt t 176=true→Nat.blt t a.tmps.size=true:=fun t h=>by rw [hs]; exact h
 have hsz:(regOf Tryz.f19 13).size=24:=by kernel_rfl
 refine of_index 24 hsz ?_
 intro i hii o ho
 match i,hii with
 | 0,_ =>
   have ho1:=opIs ho (p:=.fieldAddr 42 (.tmp 5) 0) (by kernel_rfl)
   have hg:=guardIs ho (p:=none) (by kernel_rfl)
   intro e A w hA hC hp K hk
   have x5:A.eval (.tmp 5) = .pointer (some ⟨BH,0,none⟩):=filled_base hA (by kernel_rfl) b5
   have hw:Region.wanted o (yielded (regOf Tryz.f19 13) A.tmps)=true:=wanted_free hg
   refine step_pure (v:=.pointer (some ⟨BH,0,none⟩)) hk hC hw ?_ rfl
   unfold execOp
   simp only [ho1]
   generalize A.eval=ρ at x5 ⊢
   simp [go_sem,x5]
 | 1,_ =>
   have ho1:=opIs ho (p:=.load 3 (.tmp 130)) (by kernel_rfl)
   have hg:=guardIs ho (p:=none) (by kernel_rfl)
   intro e A w hA hC hp K hk
   have x130:A.eval (.tmp 130) = .pointer (some ⟨BH,0,none⟩):=op_tmp hA hp 130 0 (by kernel_rfl) (by kernel_rfl) (by kernel_rfl) (hz _ rfl)
   have hw:Region.wanted o (yielded (regOf Tryz.f19 13) A.tmps)=true:=wanted_free hg
   have e0:=(World.cell?_of_block (a:=⟨BH,0,none⟩) (hC.block BH hBH)).trans hBH0
   refine step_pure (v:=.int .i64 tm) hk hC hw ?_ rfl
   unfold execOp
   simp only [ho1]
   generalize A.eval=ρ at x130 ⊢
   simp [go_sem,x130,e0]
 | 2,_ =>
   have ho1:=opIs ho (p:=.call { callee:=(.value (.func 54)),args:=#[(.tmp 131)],argTypes:=#[3] }) (by kernel_rfl)
   have hg:=guardIs ho (p:=none) (by kernel_rfl)
   intro e A w hA hC hp K hk
   have x131:A.eval (.tmp 131) = .int .i64 tm:=op_tmp hA hp 131 1 (by kernel_rfl) (by kernel_rfl) (by kernel_rfl) (hz _ rfl)
   have hw:Region.wanted o (yielded (regOf Tryz.f19 13) A.tmps)=true:=wanted_free hg
   refine step_call (f:=54) (args:=#[.int .i64 tm]) hk hw ?_ ?_
   ·unfold execOp
    simp only [ho1]
    have xf:∀ f,A.eval (.func f) = .func (.func f) #[] #[]:=fun _=>rfl
    generalize A.eval=ρ at x131 xf ⊢
    simp [go_sem,xf,x131]
   ·refine (wnum_any tm w).mono ?_
    rintro en w' ⟨rfl,hb'⟩
    exact⟨_,rfl,rfl,below_then hC hb' hC.size,fun j u _ _ _ _ h=>wcg_keep BH BL tm vo ba k M br nb cb sr sn sc rs P1 P2 w1 j u w _ hb' h⟩
 | 3,_ =>
   have ho1:=opIs ho (p:=.fieldAddr 42 (.tmp 5) 1) (by kernel_rfl)
   have hg:=guardIs ho (p:=none) (by kernel_rfl)
   intro e A w hA hC hp K hk
   have x5:A.eval (.tmp 5) = .pointer (some ⟨BH,0,none⟩):=filled_base hA (by kernel_rfl) b5
   have hw:Region.wanted o (yielded (regOf Tryz.f19 13) A.tmps)=true:=wanted_free hg
   refine step_pure (v:=.pointer (some ⟨BH,1,none⟩)) hk hC hw ?_ rfl
   unfold execOp
   simp only [ho1]
   generalize A.eval=ρ at x5 ⊢
   simp [go_sem,x5]
 | 4,_ =>
   have ho1:=opIs ho (p:=.load 3 (.tmp 133)) (by kernel_rfl)
   have hg:=guardIs ho (p:=none) (by kernel_rfl)
   intro e A w hA hC hp K hk
   have x133:A.eval (.tmp 133) = .pointer (some ⟨BH,1,none⟩):=op_tmp hA hp 133 3 (by kernel_rfl) (by kernel_rfl) (by kernel_rfl) (hz _ rfl)
   have hw:Region.wanted o (yielded (regOf Tryz.f19 13) A.tmps)=true:=wanted_free hg
   have e0:=(World.cell?_of_block (a:=⟨BH,1,none⟩) (hC.block BH hBH)).trans hBH1
   refine step_pure (v:=.int .i64 vo) hk hC hw ?_ rfl
   unfold execOp
   simp only [ho1]
   generalize A.eval=ρ at x133 ⊢
   simp [go_sem,x133,e0]
 | 5,_ =>
   have ho1:=opIs ho (p:=.call { callee:=(.value (.func 54)),args:=#[(.tmp 134)],argTypes:=#[3] }) (by kernel_rfl)
   have hg:=guardIs ho (p:=none) (by kernel_rfl)
   intro e A w hA hC hp K hk
   have x134:A.eval (.tmp 134) = .int .i64 vo:=op_tmp hA hp 134 4 (by kernel_rfl) (by kernel_rfl) (by kernel_rfl) (hz _ rfl)
   have hw:Region.wanted o (yielded (regOf Tryz.f19 13) A.tmps)=true:=wanted_free hg
   refine step_call (f:=54) (args:=#[.int .i64 vo]) hk hw ?_ ?_
   ·unfold execOp
    simp only [ho1]
    have xf:∀ f,A.eval (.func f) = .func (.func f) #[] #[]:=fun _=>rfl
    generalize A.eval=ρ at x134 xf ⊢
    simp [go_sem,xf,x134]
   ·refine (wnum_any vo w).mono ?_
    rintro en w' ⟨rfl,hb'⟩
    exact⟨_,rfl,rfl,below_then hC hb' hC.size,fun j u _ _ _ _ h=>wcg_keep BH BL tm vo ba k M br nb cb sr sn sc rs P1 P2 w1 j u w _ hb' h⟩
 | 6,_ =>
   have ho1:=opIs ho (p:=.fieldAddr 40 (.tmp 9) 0) (by kernel_rfl)
   have hg:=guardIs ho (p:=none) (by kernel_rfl)
   intro e A w hA hC hp K hk
   have x9:A.eval (.tmp 9) = .pointer (some ⟨BL,0,none⟩):=filled_base hA (by kernel_rfl) b9
   have hw:Region.wanted o (yielded (regOf Tryz.f19 13) A.tmps)=true:=wanted_free hg
   refine step_pure (v:=.pointer (some ⟨BL,0,none⟩)) hk hC hw ?_ rfl
   unfold execOp
   simp only [ho1]
   generalize A.eval=ρ at x9 ⊢
   simp [go_sem,x9]
 | 7,_ =>
   have ho1:=opIs ho (p:=.load 3 (.tmp 136)) (by kernel_rfl)
   have hg:=guardIs ho (p:=none) (by kernel_rfl)
   intro e A w hA hC hp K hk
   have x136:A.eval (.tmp 136) = .pointer (some ⟨BL,0,none⟩):=op_tmp hA hp 136 6 (by kernel_rfl) (by kernel_rfl) (by kernel_rfl) (hz _ rfl)
   have hw:Region.wanted o (yielded (regOf Tryz.f19 13) A.tmps)=true:=wanted_free hg
   have e0:=(World.cell?_of_block (a:=⟨BL,0,none⟩) (hC.block BL hBL)).trans hBL0
   refine step_pure (v:=.int .i64 ba) hk hC hw ?_ rfl
   unfold execOp
   simp only [ho1]
   generalize A.eval=ρ at x136 ⊢
   simp [go_sem,x136,e0]
 | 8,_ =>
   have ho1:=opIs ho (p:=.move (.tmp 10)) (by kernel_rfl)
   have hg:=guardIs ho (p:=none) (by kernel_rfl)
   intro e A w hA hC hp K hk
   have x10:A.eval (.tmp 10) = .int .i64 (k:Int):=filled_base hA (by kernel_rfl) b10
   have hw:Region.wanted o (yielded (regOf Tryz.f19 13) A.tmps)=true:=wanted_free hg
   exact step_pure hk hC hw (run_move ho1 x10 w) rfl
 | 9,_ =>
   have ho1:=opIs ho (p:=.binOp .add 3 (.tmp 137) (.tmp 138) 3) (by kernel_rfl)
   have hg:=guardIs ho (p:=none) (by kernel_rfl)
   intro e A w hA hC hp K hk
   have x137:A.eval (.tmp 137) = .int .i64 ba:=op_tmp hA hp 137 7 (by kernel_rfl) (by kernel_rfl) (by kernel_rfl) (hz _ rfl)
   have x138:A.eval (.tmp 138) = .int .i64 (k:Int):=op_tmp hA hp 138 8 (by kernel_rfl) (by kernel_rfl) (by kernel_rfl) (hz _ rfl)
   have hw:Region.wanted o (yielded (regOf Tryz.f19 13) A.tmps)=true:=wanted_free hg
   refine step_pure (v:=.int .i64 M) hk hC hw ?_ rfl
   unfold execOp
   simp only [ho1]
   generalize A.eval=ρ at x137 x138 ⊢
   simp [go_sem,x137,x138,hadd]
 | 10,_ =>
   have ho1:=opIs ho (p:=.call { callee:=(.value (.func 54)),args:=#[(.tmp 139)],argTypes:=#[3] }) (by kernel_rfl)
   have hg:=guardIs ho (p:=none) (by kernel_rfl)
   intro e A w hA hC hp K hk
   have x139:A.eval (.tmp 139) = .int .i64 M:=op_tmp hA hp 139 9 (by kernel_rfl) (by kernel_rfl) (by kernel_rfl) (hz _ rfl)
   have hw:Region.wanted o (yielded (regOf Tryz.f19 13) A.tmps)=true:=wanted_free hg
   refine step_call (f:=54) (args:=#[.int .i64 M]) hk hw ?_ ?_
   ·unfold execOp
    simp only [ho1]
    have xf:∀ f,A.eval (.func f) = .func (.func f) #[] #[]:=fun _=>rfl
    generalize A.eval=ρ at x139 xf ⊢
    simp [go_sem,xf,x139]
   ·refine (wnum_any M w).mono ?_
    rintro en w' ⟨rfl,hb'⟩
    exact⟨_,rfl,rfl,below_then hC hb' hC.size,fun j u _ _ _ _ h=>wcg_keep BH BL tm vo ba k M br nb cb sr sn sc rs P1 P2 w1 j u w _ hb' h⟩
 | 11,_ =>
   have ho1:=opIs ho (p:=.fieldAddr 40 (.tmp 9) 2) (by kernel_rfl)
   have hg:=guardIs ho (p:=none) (by kernel_rfl)
   intro e A w hA hC hp K hk
   have x9:A.eval (.tmp 9) = .pointer (some ⟨BL,0,none⟩):=filled_base hA (by kernel_rfl) b9
   have hw:Region.wanted o (yielded (regOf Tryz.f19 13) A.tmps)=true:=wanted_free hg
   refine step_pure (v:=.pointer (some ⟨BL,2,none⟩)) hk hC hw ?_ rfl
   unfold execOp
   simp only [ho1]
   generalize A.eval=ρ at x9 ⊢
   simp [go_sem,x9]
 | 12,_ =>
   have ho1:=opIs ho (p:=.load 22 (.tmp 141)) (by kernel_rfl)
   have hg:=guardIs ho (p:=none) (by kernel_rfl)
   intro e A w hA hC hp K hk
   have x141:A.eval (.tmp 141) = .pointer (some ⟨BL,2,none⟩):=op_tmp hA hp 141 11 (by kernel_rfl) (by kernel_rfl) (by kernel_rfl) (hz _ rfl)
   have hw:Region.wanted o (yielded (regOf Tryz.f19 13) A.tmps)=true:=wanted_free hg
   have e0:=(World.cell?_of_block (a:=⟨BL,2,none⟩) (hC.block BL hBL)).trans hBL2
   refine step_pure (v:=.slice br nb cb) hk hC hw ?_ rfl
   unfold execOp
   simp only [ho1]
   generalize A.eval=ρ at x141 ⊢
   simp [go_sem,x141,e0]
 | 13,_ =>
   have ho1:=opIs ho (p:=.move (.tmp 10)) (by kernel_rfl)
   have hg:=guardIs ho (p:=none) (by kernel_rfl)
   intro e A w hA hC hp K hk
   have x10:A.eval (.tmp 10) = .int .i64 (k:Int):=filled_base hA (by kernel_rfl) b10
   have hw:Region.wanted o (yielded (regOf Tryz.f19 13) A.tmps)=true:=wanted_free hg
   exact step_pure hk hC hw (run_move ho1 x10 w) rfl
 | 14,_ =>
   have ho1:=opIs ho (p:=.slice 22 (.tmp 142) (some (.tmp 143)) none none) (by kernel_rfl)
   have hg:=guardIs ho (p:=none) (by kernel_rfl)
   intro e A w hA hC hp K hk
   have x142:A.eval (.tmp 142) = .slice br nb cb:=op_tmp hA hp 142 12 (by kernel_rfl) (by kernel_rfl) (by kernel_rfl) (hz _ rfl)
   have x143:A.eval (.tmp 143) = .int .i64 (k:Int):=op_tmp hA hp 143 13 (by kernel_rfl) (by kernel_rfl) (by kernel_rfl) (hz _ rfl)
   have hw:Region.wanted o (yielded (regOf Tryz.f19 13) A.tmps)=true:=wanted_free hg
   refine step_pure (v:=.slice sr sn sc) hk hC hw ?_ rfl
   unfold execOp
   simp only [ho1]
   generalize A.eval=ρ at x142 x143 ⊢
   simp [go_sem,x142,x143,hcut]
 | 15,_ =>
   have ho1:=opIs ho (p:=.call { callee:=(.value (.func 55)),args:=#[(.tmp 144)],argTypes:=#[22] }) (by kernel_rfl)
   have hg:=guardIs ho (p:=none) (by kernel_rfl)
   intro e A w hA hC hp K hk
   have x144:A.eval (.tmp 144) = .slice sr sn sc:=op_tmp hA hp 144 14 (by kernel_rfl) (by kernel_rfl) (by kernel_rfl) (hz _ rfl)
   have hw:Region.wanted o (yielded (regOf Tryz.f19 13) A.tmps)=true:=wanted_free hg
   refine step_call (f:=55) (args:=#[.slice sr sn sc]) hk hw ?_ ?_
   ·unfold execOp
    simp only [ho1]
    have xf:∀ f,A.eval (.func f) = .func (.func f) #[] #[]:=fun _=>rfl
    generalize A.eval=ρ at x144 xf ⊢
    simp [go_sem,xf,x144]
   ·refine (wrecs_any sr sn sc rs w (hrs.keep hC) hnr).mono ?_
    rintro en w' ⟨ra,rc,rfl,hat,hb'⟩
    exact⟨_,rfl,⟨ra,rc,rfl,V.At.move (fun p hp=>⟨Nat.le_trans hC.size hp.1,hp.2⟩) (fun _ _=>rfl) _ _ hat⟩,below_then hC hb' hC.size,fun j u _ _ _ _ h=>wcg_keep BH BL tm vo ba k M br nb cb sr sn sc rs P1 P2 w1 j u w _ hb' h⟩
 | 16,_ =>
   have ho1:=opIs ho (p:=.buildSlice 68 4 #[(0,(.tmp 132)),(1,(.tmp 135)),(2,(.tmp 140)),(3,(.tmp 145))]) (by kernel_rfl)
   have hg:=guardIs ho (p:=none) (by kernel_rfl)
   intro e A w hA hC hp K hk
   have x132:A.eval (.tmp 132) = .agg #[.int .i64 1,.int .i64 tm,.string ⟨#[]⟩,.slice none 0 0]:=op_tmp hA hp 132 2 (by kernel_rfl) (by kernel_rfl) (by kernel_rfl) (hz _ rfl)
   have x135:A.eval (.tmp 135) = .agg #[.int .i64 1,.int .i64 vo,.string ⟨#[]⟩,.slice none 0 0]:=op_tmp hA hp 135 5 (by kernel_rfl) (by kernel_rfl) (by kernel_rfl) (hz _ rfl)
   have x140:A.eval (.tmp 140) = .agg #[.int .i64 1,.int .i64 M,.string ⟨#[]⟩,.slice none 0 0]:=op_tmp hA hp 140 10 (by kernel_rfl) (by kernel_rfl) (by kernel_rfl) (hz _ rfl)
   have x145:=op_tmp hA hp 145 15 (by kernel_rfl) (by kernel_rfl) (by kernel_rfl) (hz _ rfl)
   have hw:Region.wanted o (yielded (regOf Tryz.f19 13) A.tmps)=true:=wanted_free hg
   obtain⟨ra,rc,x145,h1⟩:=x145
   refine step_value (v:=.slice (some ⟨w.heap.size,0,none⟩) 4 4) (w':=w.alloc (.cells #[.int .i64 1,.int .i64 tm,.string ⟨#[]⟩,.slice none 0 0,.int .i64 1,.int .i64 vo,.string ⟨#[]⟩,.slice none 0 0,.int .i64 1,.int .i64 M,.string ⟨#[]⟩,.slice none 0 0,.int .i64 3,.int .i64 0,.string ⟨#[]⟩,.slice ra sn rc] 70)) hk hw ?_ ?_ ?_ ?_
   ·unfold execOp
    simp only [ho1]
    generalize A.eval=ρ at x132 x135 x140 x145 ⊢
    simp [go_sem,x132,x135,x140,x145]
   ·exact⟨ra,rc,w.heap.size,rfl,V.At.move (fun p hp=>⟨hp.1,Nat.lt_of_lt_of_le hp.2 (World.grownBy_alloc w _ none).size⟩) (fun p hp=>heap_alloc_old w _ hp.2) _ _ h1,hC.size,heap_alloc_new w _⟩
   ·exact hC.alloc hC.size _
   ·intro j u _ _ _ _ h
    exact wcg_keep BH BL tm vo ba k M br nb cb sr sn sc rs P1 P2 w1 j u w _ ((Below.refl _ w).alloc (Nat.le_refl _) _) h
 | 17,_ =>
   have ho1:=opIs ho (p:=.build 70 #[(0,(.const (.int .i64 3))),(3,(.tmp 146))]) (by kernel_rfl)
   have hg:=guardIs ho (p:=none) (by kernel_rfl)
   intro e A w hA hC hp K hk
   have x146:=op_tmp hA hp 146 16 (by kernel_rfl) (by kernel_rfl) (by kernel_rfl) (hz _ rfl)
   have hw:Region.wanted o (yielded (regOf Tryz.f19 13) A.tmps)=true:=wanted_free hg
   obtain⟨ra,rc,c,x146,h1,h2,h3⟩:=x146
   refine step_pure (v:=.agg #[.int .i64 3,.int .i64 0,.string ⟨#[]⟩,.slice (some ⟨c,0,none⟩) 4 4]) hk hC hw ?_ ⟨ra,rc,c,rfl,h1,h2,h3⟩
   unfold execOp
   simp only [ho1]
   have xc:∀ v,A.eval (.const v)=v:=fun _=>rfl
   generalize A.eval=ρ at x146 xc ⊢
   simp [go_sem,x146,xc]
 | 18,_ =>
   have ho1:=opIs ho (p:=.call { callee:=(.value (.func 36)),args:=#[(.tmp 147)],argTypes:=#[70] }) (by kernel_rfl)
   have hg:=guardIs ho (p:=none) (by kernel_rfl)
   intro e A w hA hC hp K hk
   have x147:=op_tmp hA hp 147 17 (by kernel_rfl) (by kernel_rfl) (by kernel_rfl) (hz _ rfl)
   have hw:Region.wanted o (yielded (regOf Tryz.f19 13) A.tmps)=true:=wanted_free hg
   obtain⟨ra,rc,c,x147,h1,h2,h3⟩:=x147
   have hat:V.At w (fun p=>p<w.heap.size) (listV [numV tm,numV vo,numV M,listV (rs.map recV)]) [.int .i64 3,.int .i64 0,.string ⟨#[]⟩,.slice (some ⟨c,0,none⟩) 4 4]:=by
    have g1:=V.At.move (w':=w) (T:=fun p=>p<w.heap.size) (fun p hp=>hp.2) (fun _ _=>rfl) _ _ h1
    have hrow:=(((RowOf.nil.snoc (numV_at w (fun p=>p<w.heap.size) tm)).snoc (numV_at w _ vo)).snoc (numV_at w _ M)).snoc g1
    exact listV_at (lt_of_block h3) hrow h3 rfl
   refine step_call (f:=36) (args:=#[.agg #[.int .i64 3,.int .i64 0,.string ⟨#[]⟩,.slice (some ⟨c,0,none⟩) 4 4]]) hk hw ?_ ?_
   ·unfold execOp
    simp only [ho1]
    have xf:∀ f,A.eval (.func f) = .func (.func f) #[] #[]:=fun _=>rfl
    generalize A.eval=ρ at x147 xf ⊢
    simp [go_sem,xf,x147]
   ·refine (hput w _ hC hat).mono ?_
    rintro en w' ⟨rfl,hb'⟩
    exact⟨_,rfl,rfl,below_then hC hb' hC.size,fun j u _ _ _ _ h=>wcg_keep BH BL tm vo ba k M br nb cb sr sn sc rs P1 P2 w1 j u w _ hb' h⟩
 | 19,_ =>
   have ho1:=opIs ho (p:=.move (.tmp 148)) (by kernel_rfl)
   have hg:=guardIs ho (p:=none) (by kernel_rfl)
   intro e A w hA hC hp K hk
   have x148:A.eval (.tmp 148) = .tuple #[.string P1,.int .i64 P2]:=op_tmp hA hp 148 18 (by kernel_rfl) (by kernel_rfl) (by kernel_rfl) (hz _ rfl)
   have hw:Region.wanted o (yielded (regOf Tryz.f19 13) A.tmps)=true:=wanted_free hg
   exact step_pure hk hC hw (run_move ho1 x148 w) rfl
 | 20,_ =>
   have ho1:=opIs ho (p:=.extract (.tmp 129) 0) (by kernel_rfl)
   have hg:=guardIs ho (p:=none) (by kernel_rfl)
   intro e A w hA hC hp K hk
   have x129:A.eval (.tmp 129) = .tuple #[.string P1,.int .i64 P2]:=op_tmp hA hp 129 19 (by kernel_rfl) (by kernel_rfl) (by kernel_rfl) (hz _ rfl)
   have hw:Region.wanted o (yielded (regOf Tryz.f19 13) A.tmps)=true:=wanted_free hg
   exact step_pure hk hC hw (run_extract ho1 x129 rfl w) rfl
 | 21,_ =>
   have ho1:=opIs ho (p:=.extract (.tmp 129) 1) (by kernel_rfl)
   have hg:=guardIs ho (p:=none) (by kernel_rfl)
   intro e A w hA hC hp K hk
   have x129:A.eval (.tmp 129) = .tuple #[.string P1,.int .i64 P2]:=op_tmp hA hp 129 19 (by kernel_rfl) (by kernel_rfl) (by kernel_rfl) (hz _ rfl)
   have hw:Region.wanted o (yielded (regOf Tryz.f19 13) A.tmps)=true:=wanted_free hg
   exact step_pure hk hC hw (run_extract ho1 x129 rfl w) rfl
 | 22,_ =>
   have ho1:=opIs ho (p:=.assign (.tmp 149)) (by kernel_rfl)
   have hg:=guardIs ho (p:=none) (by kernel_rfl)
   intro e A w hA hC hp K hk
   have x149:A.eval (.tmp 149) = .string P1:=op_tmp hA hp 149 20 (by kernel_rfl) (by kernel_rfl) (by kernel_rfl) (hz _ rfl)
   have hw:Region.wanted o (yielded (regOf Tryz.f19 13) A.tmps)=true:=wanted_free hg
   exact step_pure hk hC hw (run_assign ho1 x149 w) rfl
 | 23,_ =>
   have ho1:=opIs ho (p:=.assign (.tmp 150)) (by kernel_rfl)
   have hg:=guardIs ho (p:=none) (by kernel_rfl)
   intro e A w hA hC hp K hk
   have x150:A.eval (.tmp 150) = .int .i64 P2:=op_tmp hA hp 150 21 (by kernel_rfl) (by kernel_rfl) (by kernel_rfl) (hz _ rfl)
   have hw:Region.wanted o (yielded (regOf Tryz.f19 13) A.tmps)=true:=wanted_free hg
   exact step_pure hk hC hw (run_assign ho1 x150 w) rfl
 | _+24,h=>exact absurd h (by omega)
theorem cut_recs {a:Option Addr}{n c k:Nat}{l:List Rc}(hl:n=l.length) (hk:k≤n) (hc:n≤c) {w0:World}(h0:rcE.Sl w0 a n l):∃ a':Option Addr,(∀ w,(Instr.sliceAt 22 (.slice a n c) (some (.int .i64 (k:Int))) none none).run Tryz.prog w = .ok (.slice a' (n - k) (c - k)) w)∧∀ w,rcE.Sl w a n l→rcE.Sl w a' (n - k) (l.drop k):=by
 have u:=Tryz.underlying22
 by_cases hn:n=0
 ·subst hn
  obtain rfl:k=0:=by omega
  obtain rfl:l=[]:=List.eq_nil_of_length_eq_zero hl.symm
  rcases a with - | ⟨b,off,sp⟩
  ·exact⟨none,fun w=>by simp [go_sem],fun w h=>h⟩
  ·exact⟨_,fun w=>by simp [go_sem]; rfl,fun w h=>Enc.Sl.nil _ _⟩
 ·rcases h0.2 with h1 | ⟨b,off,rfl,-⟩
  ·subst h1; exact absurd hl hn
  ·by_cases hck:c=k
   ·refine⟨some ⟨b,off,none⟩,fun w=>by simp [go_sem,hk,hck],fun w h=>?_⟩
    obtain rfl:k=n:=by omega
    rw [List.drop_of_length_le (by omega),Nat.sub_self]
    exact Enc.Sl.nil _ _
   ·exact⟨some ⟨b,off+k*3,none⟩,fun w=>by simp [go_sem,hk,hck],fun w h=>h.drop hk⟩
end Go.Proofs.YtlpgbmaoenncjaaGreatDoor

namespace Go.Proofs.YtlpgbmaoenncjaaGreatDoor
open Go.RowKit
set_option linter.unusedVariables false
set_option maxRecDepth 100000
theorem sameN_stop:∀ (k:Nat) (a b:List Rc),a.take k=b.take k→k≤a.length→k≤b.length→(∀ (h1:k<a.length) (h2:k<b.length),a[k]≠b[k])→sameN a b=k
 | 0,[],b,_,_,_,_=>by simp [sameN]
 | 0,x :: a,[],_,_,_,_=>by simp [sameN]
 | 0,x :: a,y :: b,_,_,_,h=>by
   have h1:=h (by simp) (by simp)
   unfold sameN
   rw [if_neg (by simpa using h1)]
 | k+1,[],b,_,h,_,_=>by simp at h
 | k+1,x :: a,[],_,_,h,_=>by simp at h
 | k+1,x :: a,y :: b,ht,ha,hb,h=>by
   rw [List.take_succ_cons,List.take_succ_cons] at ht
   obtain⟨h1,h2⟩:=List.cons.inj ht
   unfold sameN
   rw [if_pos h1,sameN_stop k a b h2 (by simpa using ha) (by simpa using hb) (fun h3 h4 he=>h (Nat.succ_lt_succ h3) (Nat.succ_lt_succ h4) he)]
theorem take_more {a b:List Rc}{k:Nat}(h:a.take k=b.take k) (ha:k<a.length) (hb:k<b.length) (he:a[k]=b[k]):a.take (k+1)=b.take (k+1):=by
 rw [List.take_succ_eq_append_getElem ha,List.take_succ_eq_append_getElem hb,h,he]
theorem changeV_small {old now:Hd}(ho:rightH old=true) (hr:rightH now=true):(changeV old now).cnt≤4611686018427387904∧(putL (changeV old now)).length≤140737488355328:=by
 obtain⟨⟨k1,k2,⟨k3,k4,k5,k6,-,k7,k8⟩,k9,k10⟩,hv,hc⟩:=shaped_in (rightH_shaped hr)
 have hl:(now.recs.drop (sameN old.recs now.recs)).length≤200:=by rw [List.length_drop]; omega
 have hn:=sameN_le old.recs now.recs
 constructor
 ·unfold changeV
  rw [listV_cnt]
  simp only [cntAll,numV_cnt]
  have:=recsV_cnt (now.recs.drop (sameN old.recs now.recs))
  omega
 ·unfold changeV
  rw [listV_len]
  simp only [putAll,List.length_append,List.length_nil]
  have e0:=numV_len (n:=now.term) (by omega) (by omega)
  have e1:=numV_len (n:=now.vote) (by omega) (by omega)
  have e2:=numV_len (n:=now.base+(sameN old.recs now.recs:Int)) (by omega) (by omega)
  have e3:=recsV_len (l:=now.recs.drop (sameN old.recs now.recs)) (fun x hx=>by have:=hc x (List.mem_of_mem_drop hx); exact⟨⟨⟨by omega,by omega⟩,⟨by omega,by omega⟩⟩,by omega⟩)
  omega
end Go.Proofs.YtlpgbmaoenncjaaGreatDoor

namespace Go.Proofs.YtlpgbmaoenncjaaGreatDoor
open Go.RowKit
set_option linter.unusedVariables false
set_option maxRecDepth 100000
structure SvSt (w wx:World) (cs ds:List Value) (d:Dk) (a:Option Addr) (n c:Nat):Prop where
 box:DkBox wx w.heap.size d a n c
 hd:Blk wx (w.heap.size+1) 42 cs
 nw:Blk wx (w.heap.size+1+1) 42 ds
 out:DkBox wx (w.heap.size+1+1+1) Dk.zero none 0 0
 at_:DkAt wx a n c d
 bel:Below w.heap.size w wx
theorem SvSt.keep {w wx w':World}{cs ds:List Value}{d:Dk}{a:Option Addr}{n c:Nat}(h:SvSt w wx cs ds d a n c) (hb:Below wx.heap.size wx w'):SvSt w w' cs ds d a n c :=
 ⟨h.box.keep hb,h.hd.keep hb,h.nw.keep hb,h.out.keep hb,h.at_.keep hb,below_then h.bel hb h.bel.size⟩
theorem sv_start (w:World) (cs ds:List Value) {d:Dk}{a:Option Addr}{n c:Nat}(h:DkAt w a n c d) :
 SvSt w ((((w.alloc (.cells #[.int .i64 d.room,.slice a n c,.int .i64 d.left,.bool d.down] 38)).alloc (.cells cs.toArray 42)).alloc (.cells ds.toArray 42)).alloc (.cells #[.int .i64 0,.slice none 0 0,.int .i64 0,.bool false] 38)) cs ds d a n c:=by
 have b1:Below w.heap.size w (w.alloc (.cells #[.int .i64 d.room,.slice a n c,.int .i64 d.left,.bool d.down] 38)):=(Below.refl _ w).alloc (Nat.le_refl _) _
 have h0:=DkBox.new w d a n c
 have e1:(w.alloc (.cells #[.int .i64 d.room,.slice a n c,.int .i64 d.left,.bool d.down] 38)).heap.size=w.heap.size+1:=World.size_alloc ..
 have h1:=heap_alloc_new (w.alloc (.cells #[.int .i64 d.room,.slice a n c,.int .i64 d.left,.bool d.down] 38)) (.cells cs.toArray 42)
 rw [e1] at h1
 generalize w.alloc (.cells #[.int .i64 d.room,.slice a n c,.int .i64 d.left,.bool d.down] 38)=w1 at *
 have b2:Below w1.heap.size w1 (w1.alloc (.cells cs.toArray 42)):=(Below.refl _ w1).alloc (Nat.le_refl _) _
 have e2:(w1.alloc (.cells cs.toArray 42)).heap.size=w.heap.size+1+1:=by rw [World.size_alloc,e1]
 have h2:=heap_alloc_new (w1.alloc (.cells cs.toArray 42)) (.cells ds.toArray 42)
 rw [e2] at h2
 have g0:=h0.keep b2
 have c2:=below_then b1 b2 b1.size
 generalize w1.alloc (.cells cs.toArray 42)=w2 at *
 have b3:Below w2.heap.size w2 (w2.alloc (.cells ds.toArray 42)):=(Below.refl _ w2).alloc (Nat.le_refl _) _
 have e3:(w2.alloc (.cells ds.toArray 42)).heap.size=w.heap.size+1+1+1:=by rw [World.size_alloc,e2]
 have h3:=heap_alloc_new (w2.alloc (.cells ds.toArray 42)) (.cells #[.int .i64 0,.slice none 0 0,.int .i64 0,.bool false] 38)
 rw [e3] at h3
 have f0:=g0.keep b3
 have f1:Blk (w2.alloc (.cells ds.toArray 42)) (w.heap.size+1) 42 cs:=Blk.keep (show Blk w2 (w.heap.size+1) 42 cs from h1) b3
 have c3:=below_then c2 b3 c2.size
 generalize w2.alloc (.cells ds.toArray 42)=w3 at *
 have b4:Below w3.heap.size w3 (w3.alloc (.cells #[.int .i64 0,.slice none 0 0,.int .i64 0,.bool false] 38)):=(Below.refl _ w3).alloc (Nat.le_refl _) _
 have c4:=below_then c3 b4 c3.size
 exact⟨f0.keep b4,f1.keep b4,Blk.keep (show Blk w3 (w.heap.size+1+1) 42 ds from h2) b4,h3,h.keep c4,c4⟩
theorem SvSt.ret {w wx:World}{cs ds:List Value}{d:Dk}{a:Option Addr}{n c:Nat}(h:SvSt w wx cs ds d a n c) {e:Dk}{a':Option Addr}{n' c':Nat}(he:DkAt wx a' n' c' e) (x:Int) :
 RetDk w (e,x) (.returned (.tuple #[.agg #[.int .i64 e.room,.slice a' n' c',.int .i64 e.left,.bool e.down],.int .i64 x])) ((((wx.setCell ⟨w.heap.size+1+1+1,0,none⟩ (.int .i64 e.room)).setCell ⟨w.heap.size+1+1+1,1,none⟩ (.slice a' n' c')).setCell ⟨w.heap.size+1+1+1,2,none⟩ (.int .i64 e.left)).setCell ⟨w.heap.size+1+1+1,3,none⟩ (.bool e.down)) :=
 RetDk.store he h.bel h.out (by omega)
end Go.Proofs.YtlpgbmaoenncjaaGreatDoor

namespace Go.Proofs.YtlpgbmaoenncjaaGreatDoor
open Go.RowKit
set_option linter.unusedVariables false
set_option maxRecDepth 100000
def CTwo (w1:World) (t:TypeId) (ia ib s:Nat) (zero fin:List Value) (e:Vals) (w:World):Prop :=
 Below w1.heap.size w1 w∧(∀ u,e ia=some u→∃ p,u = .pointer (some ⟨p,0,none⟩)∧w1.heap.size≤p∧(e s=none→w.heap[p]? = some (.cells zero.toArray t (0,0)))∧∀ x,e s=some x→w.heap[p]? = some (.cells fin.toArray t (0,0))) ∧
  ∀ u,e ib=some u→∃ p,u = .pointer (some ⟨p,0,none⟩)∧w1.heap.size≤p∧w.heap[p]? = some (.cells zero.toArray t (0,0))∧∀ q,e ia=some (.pointer (some ⟨q,0,none⟩))→q≠p
section
variable {w1:World}{t:TypeId}{ia ib s:Nat}{zero fin:List Value}{e:Vals}{w w':World}
theorem CTwo.start:CTwo w1 t ia ib s zero fin (fun _=>none) w1.drew:=⟨(Below.refl _ _).drew,(fun u hu=>by cases hu),fun u hu=>by cases hu⟩
theorem CTwo.keep (h:CTwo w1 t ia ib s zero fin e w) (hb:Below w.heap.size w w') {i:Nat}(h1:i≠ia) (h2:i≠ib) (h3:i≠s) (v:Value):CTwo w1 t ia ib s zero fin (e.set i v) w':=by
 unfold CTwo
 rw [Vals.set_other e v (fun e=>h1 e.symm),Vals.set_other e v (fun e=>h2 e.symm),Vals.set_other e v (fun e=>h3 e.symm)]
 refine⟨below_then h.1 hb h.1.size,fun u hu=>?_,fun u hu=>?_⟩
 ·obtain⟨p,rfl,hp,hz,hs⟩:=h.2.1 u hu
  exact⟨p,rfl,hp,fun hn=>(hb.block p (lt_of_block (hz hn))).trans (hz hn),fun x hx=>(hb.block p (lt_of_block (hs x hx))).trans (hs x hx)⟩
 ·obtain⟨p,rfl,hp,hz,hs⟩:=h.2.2 u hu
  exact⟨p,rfl,hp,(hb.block p (lt_of_block hz)).trans hz,hs⟩
theorem CTwo.madeA (h:CTwo w1 t ia ib s zero fin e w) (h1:ia≠ib) (h2:ia≠s) (hs:e s=none):CTwo w1 t ia ib s zero fin (e.set ia (.pointer (some ⟨w.heap.size,0,none⟩))) (w.alloc (.cells zero.toArray t)):=by
 unfold CTwo
 rw [Vals.set_same,Vals.set_other e _ (fun e=>h1 e.symm),Vals.set_other e _ (fun e=>h2 e.symm)]
 refine⟨h.1.alloc h.1.size _,fun u hu=>?_,fun u hu=>?_⟩
 ·obtain rfl:=Option.some.inj hu
  exact⟨w.heap.size,rfl,h.1.size,fun _=>heap_alloc_new w _,fun x hx=>by rw [hs] at hx; cases hx⟩
 ·obtain⟨p,rfl,hp,hz,hq⟩:=h.2.2 u hu
  refine⟨p,rfl,hp,(heap_alloc_old w _ (lt_of_block hz)).trans hz,fun q hq2=>?_⟩
  injection Option.some.inj hq2 with h3
  injection Option.some.inj h3 with h4
  have:=lt_of_block hz
  omega
theorem CTwo.madeB (h:CTwo w1 t ia ib s zero fin e w) (h1:ib≠ia) (h2:ib≠s):CTwo w1 t ia ib s zero fin (e.set ib (.pointer (some ⟨w.heap.size,0,none⟩))) (w.alloc (.cells zero.toArray t)):=by
 unfold CTwo
 rw [Vals.set_same,Vals.set_other e _ (fun e=>h1 e.symm),Vals.set_other e _ (fun e=>h2 e.symm)]
 refine⟨h.1.alloc h.1.size _,fun u hu=>?_,fun u hu=>?_⟩
 ·obtain⟨p,rfl,hp,hz,hs⟩:=h.2.1 u hu
  exact⟨p,rfl,hp,fun hn=>(heap_alloc_old w _ (lt_of_block (hz hn))).trans (hz hn),fun x hx=>(heap_alloc_old w _ (lt_of_block (hs x hx))).trans (hs x hx)⟩
 ·obtain rfl:=Option.some.inj hu
  refine⟨w.heap.size,rfl,h.1.size,heap_alloc_new w _,fun q hq2=>?_⟩
  obtain⟨p,hpe,hp,hz,hs⟩:=h.2.1 _ hq2
  injection hpe with h3
  injection Option.some.inj h3 with h4
  subst h4
  cases hes:e s with
  | none=>have:=lt_of_block (hz hes); omega
  | some x=>have:=lt_of_block (hs x hes); omega
theorem CTwo.stored {a:Nat}{x y:Value}{z:Value}{zz0 zz1 zz2:Value}(h:CTwo w1 t ia ib s [zz0,zz1,zz2] [x,y,z] e w) (h1:s≠ia) (h2:s≠ib) (h3:ia≠ib) (hu:e ia=some (.pointer (some ⟨a,0,none⟩))) (hp:w1.heap.size≤a) (hz:Blk w a t [zz0,zz1,zz2]) :
 CTwo w1 t ia ib s [zz0,zz1,zz2] [x,y,z] (e.set s undef) (((w.setCell ⟨a,0,none⟩ x).setCell ⟨a,1,none⟩ y).setCell ⟨a,2,none⟩ z):=by
 have hg:=grown_trans (grown_trans (grown_setCell w a 0 x) (grown_setCell _ a 1 y)) (grown_setCell _ a 2 z)
 have hb:=((hz.set 0 x).set 1 y).set 2 z
 unfold CTwo
 rw [Vals.set_same,Vals.set_other e _ (fun e=>h1 e.symm),Vals.set_other e _ (fun e=>h2 e.symm)]
 refine⟨h.1.grown hg h.1.size (fun k e=>by cases e; exact hp),fun u hu2=>?_,fun u hu2=>?_⟩
 ·rw [hu] at hu2
  obtain rfl:=Option.some.inj hu2
  exact⟨a,rfl,hp,(fun hn=>by cases hn),fun _ _=>hb⟩
 ·obtain⟨p,rfl,hp2,hz2,hq⟩:=h.2.2 u hu2
  exact⟨p,rfl,hp2,(hg.block p (lt_of_block hz2) (fun e=>hq a hu (Option.some.inj e).symm)).trans hz2,hq⟩
end
def wslT (BO BN:Nat) (bs bt:Int) (ar:Option Addr) (nr cr:Nat) (bs1 bt1:Int) (ar1:Option Addr) (nr1 cr1:Nat) (w1:World):Nat→Value→World→Prop
 | 0,v,w=>v = .pointer (some ⟨BO,2,none⟩)
 | 1,v,w=>v = .agg #[.int .i64 bs,.int .i64 bt,.slice ar nr cr]
 | 2,v,w=>v = .pointer (some ⟨BN,2,none⟩)
 | 3,v,w=>v = .agg #[.int .i64 bs1,.int .i64 bt1,.slice ar1 nr1 cr1]
 | 4,v,w=>True
 | 5,v,w=>True
 | 6,v,w=>True
 | _,_,_=>True
def wslD:Nat→List Nat
 | _=>[]
theorem wsl_keep (BO BN:Nat) (bs bt:Int) (ar:Option Addr) (nr cr:Nat) (bs1 bt1:Int) (ar1:Option Addr) (nr1 cr1:Nat) (w1:World):∀ (j:Nat) (u:Value) (w w':World),Below w.heap.size w w'→(wslT BO BN bs bt ar nr cr bs1 bt1 ar1 nr1 cr1 w1) j u w→(wslT BO BN bs bt ar nr cr bs1 bt1 ar1 nr1 cr1 w1) j u w'
 | 4,u,w,w',hb,h=>trivial
 | 5,u,w,w',hb,h=>trivial
 | 6,u,w,w',hb,h=>trivial
 | 0,u,w,w',hb,h=>h
 | 1,u,w,w',hb,h=>h
 | 2,u,w,w',hb,h=>h
 | 3,u,w,w',hb,h=>h
 | _+7,u,w,w',hb,h=>trivial
theorem wsl_any (BO BN:Nat) (bs bt:Int) (ar:Option Addr) (nr cr:Nat) (bs1 bt1:Int) (ar1:Option Addr) (nr1 cr1:Nat) (w1:World):∀ (j:Nat) (u:Value) (w w':World),(wslT BO BN bs bt ar nr cr bs1 bt1 ar1 nr1 cr1 w1) j u w→(wslT BO BN bs bt ar nr cr bs1 bt1 ar1 nr1 cr1 w1) j u w'
 | 0,u,w,w',h=>h
 | 1,u,w,w',h=>h
 | 2,u,w,w',h=>h
 | 3,u,w,w',h=>h
 | 4,u,w,w',h=>h
 | 5,u,w,w',h=>h
 | 6,u,w,w',h=>h
 | _+7,u,w,w',h=>trivial
set_option maxHeartbeats 4000000 in
theorem wsl_steps (BO BN:Nat) (bs bt:Int) (ar:Option Addr) (nr cr:Nat) (bs1 bt1:Int) (ar1:Option Addr) (nr1 cr1:Nat) (w1:World) (hBO:BO<w1.heap.size) (hBO2:w1.cell? ⟨BO,2,none⟩=some (.int .i64 bs)) (hBO3:w1.cell? ⟨BO,3,none⟩=some (.int .i64 bt)) (hBO4:w1.cell? ⟨BO,4,none⟩=some (.slice ar nr cr)) (hBN:BN<w1.heap.size) (hBN2:w1.cell? ⟨BN,2,none⟩=some (.int .i64 bs1)) (hBN3:w1.cell? ⟨BN,3,none⟩=some (.int .i64 bt1)) (hBN4:w1.cell? ⟨BN,4,none⟩=some (.slice ar1 nr1 cr1)) {a:Act}(hs:a.tmps.size=176) (b4:a.eval (.tmp 4) = .pointer (some ⟨BO,0,none⟩)) (b5:a.eval (.tmp 5) = .pointer (some ⟨BN,0,none⟩)):∀ i o,i<7→(regOf Tryz.f19 5)[i]? = some o→StepOkE Tryz.prog (regOf Tryz.f19 5) a (CTwo w1 40 4 5 6 [.int .i64 0,.int .i64 0,.slice none 0 0] [.int .i64 bs,.int .i64 bt,.slice ar nr cr]) (wslT BO BN bs bt ar nr cr bs1 bt1 ar1 nr1 cr1 w1) wslD i o:=by
 have hz:∀ t,Nat.blt t 176=true→Nat.blt t a.tmps.size=true:=fun t h=>by rw [hs]; exact h
 have hsz:(regOf Tryz.f19 5).size=8:=by kernel_rfl
 intro i o hii ho
 match i,hii with
 | 0,_ =>
   have ho1:=opIs ho (p:=.fieldAddr 42 (.tmp 4) 2) (by kernel_rfl)
   have hg:=guardIs ho (p:=none) (by kernel_rfl)
   intro e A w hA hC hp hup K hk
   have hCB:=hC.1
   replace hk:Next (regOf Tryz.f19 5) (fun w'=>Below w.heap.size w w') (wslT BO BN bs bt ar nr cr bs1 bt1 ar1 nr1 cr1 w1) wslD 0 e A w o.dst K:=hk.next fun v w' hb=>CTwo.keep hC hb (by decide) (by decide) (by decide) v
   replace hC:=Below.refl w.heap.size w
   have x4:A.eval (.tmp 4) = .pointer (some ⟨BO,0,none⟩):=filled_base hA (by kernel_rfl) b4
   have hw:Region.wanted o (yielded (regOf Tryz.f19 5) A.tmps)=true:=wanted_free hg
   refine step_pure (v:=.pointer (some ⟨BO,2,none⟩)) hk hC hw ?_ rfl
   unfold execOp
   simp only [ho1]
   generalize A.eval=ρ at x4 ⊢
   simp [go_sem,x4]
 | 1,_ =>
   have ho1:=opIs ho (p:=.load 40 (.tmp 34)) (by kernel_rfl)
   have hg:=guardIs ho (p:=none) (by kernel_rfl)
   intro e A w hA hC hp hup K hk
   have hCB:=hC.1
   replace hk:Next (regOf Tryz.f19 5) (fun w'=>Below w.heap.size w w') (wslT BO BN bs bt ar nr cr bs1 bt1 ar1 nr1 cr1 w1) wslD 1 e A w o.dst K:=hk.next fun v w' hb=>CTwo.keep hC hb (by decide) (by decide) (by decide) v
   replace hC:=Below.refl w.heap.size w
   have x34:A.eval (.tmp 34) = .pointer (some ⟨BO,2,none⟩):=op_tmp hA hp 34 0 (by kernel_rfl) (by kernel_rfl) (by kernel_rfl) (hz _ rfl)
   have hw:Region.wanted o (yielded (regOf Tryz.f19 5) A.tmps)=true:=wanted_free hg
   have e2:=(World.cell?_of_block (a:=⟨BO,2,none⟩) (hCB.block BO hBO)).trans hBO2
   have e3:=(World.cell?_of_block (a:=⟨BO,3,none⟩) (hCB.block BO hBO)).trans hBO3
   have e4:=(World.cell?_of_block (a:=⟨BO,4,none⟩) (hCB.block BO hBO)).trans hBO4
   refine step_pure (v:=.agg #[.int .i64 bs,.int .i64 bt,.slice ar nr cr]) hk hC hw ?_ rfl
   unfold execOp
   simp only [ho1]
   skip
   generalize A.eval=ρ at x34 ⊢
   simp [go_sem,x34,e2,e3,e4]
 | 2,_ =>
   have ho1:=opIs ho (p:=.fieldAddr 42 (.tmp 5) 2) (by kernel_rfl)
   have hg:=guardIs ho (p:=none) (by kernel_rfl)
   intro e A w hA hC hp hup K hk
   have hCB:=hC.1
   replace hk:Next (regOf Tryz.f19 5) (fun w'=>Below w.heap.size w w') (wslT BO BN bs bt ar nr cr bs1 bt1 ar1 nr1 cr1 w1) wslD 2 e A w o.dst K:=hk.next fun v w' hb=>CTwo.keep hC hb (by decide) (by decide) (by decide) v
   replace hC:=Below.refl w.heap.size w
   have x5:A.eval (.tmp 5) = .pointer (some ⟨BN,0,none⟩):=filled_base hA (by kernel_rfl) b5
   have hw:Region.wanted o (yielded (regOf Tryz.f19 5) A.tmps)=true:=wanted_free hg
   refine step_pure (v:=.pointer (some ⟨BN,2,none⟩)) hk hC hw ?_ rfl
   unfold execOp
   simp only [ho1]
   generalize A.eval=ρ at x5 ⊢
   simp [go_sem,x5]
 | 3,_ =>
   have ho1:=opIs ho (p:=.load 40 (.tmp 36)) (by kernel_rfl)
   have hg:=guardIs ho (p:=none) (by kernel_rfl)
   intro e A w hA hC hp hup K hk
   have hCB:=hC.1
   replace hk:Next (regOf Tryz.f19 5) (fun w'=>Below w.heap.size w w') (wslT BO BN bs bt ar nr cr bs1 bt1 ar1 nr1 cr1 w1) wslD 3 e A w o.dst K:=hk.next fun v w' hb=>CTwo.keep hC hb (by decide) (by decide) (by decide) v
   replace hC:=Below.refl w.heap.size w
   have x36:A.eval (.tmp 36) = .pointer (some ⟨BN,2,none⟩):=op_tmp hA hp 36 2 (by kernel_rfl) (by kernel_rfl) (by kernel_rfl) (hz _ rfl)
   have hw:Region.wanted o (yielded (regOf Tryz.f19 5) A.tmps)=true:=wanted_free hg
   have e2:=(World.cell?_of_block (a:=⟨BN,2,none⟩) (hCB.block BN hBN)).trans hBN2
   have e3:=(World.cell?_of_block (a:=⟨BN,3,none⟩) (hCB.block BN hBN)).trans hBN3
   have e4:=(World.cell?_of_block (a:=⟨BN,4,none⟩) (hCB.block BN hBN)).trans hBN4
   refine step_pure (v:=.agg #[.int .i64 bs1,.int .i64 bt1,.slice ar1 nr1 cr1]) hk hC hw ?_ rfl
   unfold execOp
   simp only [ho1]
   skip
   generalize A.eval=ρ at x36 ⊢
   simp [go_sem,x36,e2,e3,e4]
 | 4,_ =>
   have ho1:=opIs ho (p:=.alloc 40) (by kernel_rfl)
   have hg:=guardIs ho (p:=none) (by kernel_rfl)
   intro e A w hA hC hp hup K hk
   have hw:Region.wanted o (yielded (regOf Tryz.f19 5) A.tmps)=true:=wanted_free hg
   refine step_valueE (v:=.pointer (some ⟨w.heap.size,0,none⟩)) (w':=w.alloc (.cells #[.int .i64 0,.int .i64 0,.slice none 0 0] 40)) hk hw ?_ trivial ?_ ?_
   ·unfold execOp
    simp only [ho1]
    simp [go_sem]
   ·exact CTwo.madeA hC (by decide) (by decide) (hup 6 (by kernel_rfl))
   ·intro j u _ _ _ _ h
    exact wsl_keep BO BN bs bt ar nr cr bs1 bt1 ar1 nr1 cr1 w1 j u w _ ((Below.refl _ w).alloc (Nat.le_refl _) _) h
 | 5,_ =>
   have ho1:=opIs ho (p:=.alloc 40) (by kernel_rfl)
   have hg:=guardIs ho (p:=none) (by kernel_rfl)
   intro e A w hA hC hp hup K hk
   have hw:Region.wanted o (yielded (regOf Tryz.f19 5) A.tmps)=true:=wanted_free hg
   refine step_valueE (v:=.pointer (some ⟨w.heap.size,0,none⟩)) (w':=w.alloc (.cells #[.int .i64 0,.int .i64 0,.slice none 0 0] 40)) hk hw ?_ trivial ?_ ?_
   ·unfold execOp
    simp only [ho1]
    simp [go_sem]
   ·exact CTwo.madeB hC (by decide) (by decide)
   ·intro j u _ _ _ _ h
    exact wsl_keep BO BN bs bt ar nr cr bs1 bt1 ar1 nr1 cr1 w1 j u w _ ((Below.refl _ w).alloc (Nat.le_refl _) _) h
 | 6,_ =>
   have ho1:=opIs ho (p:=.store 40 (.tmp 8) (.tmp 35)) (by kernel_rfl)
   have hg:=guardIs ho (p:=none) (by kernel_rfl)
   intro e A w hA hC hp hup K hk
   have x8:=op_tmp hA hp 8 4 (by kernel_rfl) (by kernel_rfl) (by kernel_rfl) (hz _ rfl)
   have x35:A.eval (.tmp 35) = .agg #[.int .i64 bs,.int .i64 bt,.slice ar nr cr]:=op_tmp hA hp 35 1 (by kernel_rfl) (by kernel_rfl) (by kernel_rfl) (hz _ rfl)
   have hw:Region.wanted o (yielded (regOf Tryz.f19 5) A.tmps)=true:=wanted_free hg
   obtain⟨u,hu,-⟩:=hp 4 (by kernel_rfl)
   obtain⟨p,rfl,hp1,hzb,-⟩:=hC.2.1 u hu
   have xa:A.eval (.tmp 8) = .pointer (some ⟨p,0,none⟩):=filled_tmp hA (by kernel_rfl) hu (by simpa [Nat.blt_eq] using hz 8 rfl)
   have hzero:Blk w p 40 [.int .i64 0,.int .i64 0,.slice none 0 0]:=hzb (hup 6 (by kernel_rfl))
   have z0:=hzero.cell (j:=0) rfl; have z1:=hzero.cell (j:=1) rfl; have z2:=hzero.cell (j:=2) rfl
   have f0:=hzero.free 0; have f1:=hzero.free 1; have f2:=hzero.free 2
   refine step_skipE (w':=(((w.setCell ⟨p,0,none⟩ (.int .i64 bs)).setCell ⟨p,1,none⟩ (.int .i64 bt)).setCell ⟨p,2,none⟩ (.slice ar nr cr))) hk hw ?_ trivial ?_ ?_
   ·clear x8
    unfold execOp
    simp only [ho1]
    generalize A.eval=ρ at x35 xa ⊢
    simp [go_sem,x35,xa,z0,z1,z2,f0,f1,f2]
   ·exact hC.stored (by decide) (by decide) (by decide) hu hp1 hzero
   ·intro j u _ _ _ _ h
    exact wsl_any BO BN bs bt ar nr cr bs1 bt1 ar1 nr1 cr1 w1 j u w _ h
 | _+7,h=>exact absurd h (by omega)
end Go.Proofs.YtlpgbmaoenncjaaGreatDoor

/-
  Records compared, and the reference's Like at any two states.
-/
import Derived.Test.YtlpgbmaoenncjaaGreatDoorWsOne
import Derived.Test.YtlpgbmaoenncjaaGreatDoorWaL
import Derived.Test.YtlpgbmaoenncjaaGreatDoorCkLike
namespace Go.Proofs.YtlpgbmaoenncjaaGreatDoor
open Go.RowKit Go.BigFrame
set_option linter.unusedVariables false
set_option maxRecDepth 100000
theorem toList_eq_iff (a b:ByteArray):(a.toList==b.toList)=decide (a=b):=by
 by_cases h:a=b
 ·subst h; simp
 ·rw [toList_ne h,decide_eq_false h]
theorem eqRec_run (x y:Int) (z:ByteArray) (x' y':Int) (z':ByteArray) (w:World):(binOp .eql 67 (.agg #[.int .i64 x,.int .i64 y,.string z]) (.agg #[.int .i64 x',.int .i64 y',.string z'])).run Tryz.prog w = .ok (.bool (x==x'&&y==y'&&z.toList==z'.toList)) w:=by
 have u3:=Tryz.underlying9
 have u4:=Tryz.underlying3
 have hS:Tryz.prog.underlying 67 = some (.struct (Tryz.prog.fieldsOf 67)):=by kernel_rfl
 have hp:Tryz.prog.stoodInHeld 67 = false:=by kernel_rfl
 rw [run_eql_struct,show (10000:Nat)=9999+1 from rfl,run_equalIn_agg w 9999 67 _ _ hS hp]
 simp only [Program.fieldsOf,Tryz.underlying67]
 by_cases h1:(x==x')=true
 ·by_cases h2:(y==y')=true
  ·go_simp
   by_cases h3:z.toList=z'.toList <;> simp [h3]
  ·go_simp
 ·go_simp
theorem neqRec_run (x y:Int) (z:ByteArray) (x' y':Int) (z':ByteArray) (w:World):(binOp .neq 67 (.agg #[.int .i64 x,.int .i64 y,.string z]) (.agg #[.int .i64 x',.int .i64 y',.string z'])).run Tryz.prog w = .ok (.bool (!(x==x'&&y==y'&&z.toList==z'.toList))) w:=by
 have u3:=Tryz.underlying9
 have u4:=Tryz.underlying3
 have hS:Tryz.prog.underlying 67 = some (.struct (Tryz.prog.fieldsOf 67)):=by kernel_rfl
 have hp:Tryz.prog.stoodInHeld 67 = false:=by kernel_rfl
 rw [run_neq_struct,show (10000:Nat)=9999+1 from rfl,run_equalIn_agg w 9999 67 _ _ hS hp]
 simp only [Program.fieldsOf,Tryz.underlying67]
 by_cases h1:(x==x')=true
 ·by_cases h2:(y==y')=true
  ·go_simp
   by_cases h3:z.toList=z'.toList <;> simp [h3]
  ·go_simp
 ·go_simp
theorem rc_eq_iff (x y:Int) (z:ByteArray) (x' y':Int) (z':ByteArray):(x==x'&&y==y'&&z.toList==z'.toList)=decide ((⟨x,y,z⟩:Rc)=⟨x',y',z'⟩):=by
 by_cases h:(⟨x,y,z⟩:Rc)=⟨x',y',z'⟩
 ·obtain⟨rfl,rfl,rfl⟩:=Rc.mk.inj h
  simp
 ·rw [decide_eq_false h]
  cases hc:(x==x'&&y==y'&&z.toList==z'.toList) with
  | false=>rfl
  | true =>
    rw [Bool.and_eq_true,Bool.and_eq_true,toList_eq_iff] at hc
    exact absurd (by rw [show x=x' by simpa using hc.1.1,show y=y' by simpa using hc.1.2,show z=z' from of_decide_eq_true hc.2]) h
theorem eqRec_any (r s:Rc) (w:World):(binOp .eql 67 (.agg #[.int .i64 r.term,.int .i64 r.kind,.string r.data]) (.agg #[.int .i64 s.term,.int .i64 s.kind,.string s.data])).run Tryz.prog w = .ok (.bool (decide (r=s))) w:=by
 rw [eqRec_run,rc_eq_iff]
theorem neqRec_any (r s:Rc) (w:World):(binOp .neq 67 (.agg #[.int .i64 r.term,.int .i64 r.kind,.string r.data]) (.agg #[.int .i64 s.term,.int .i64 s.kind,.string s.data])).run Tryz.prog w = .ok (.bool (!decide (r=s))) w:=by
 rw [neqRec_run,rc_eq_iff]
set_option maxHeartbeats 2000000 in
theorem rlike14_any (h h1:Hd) (ar:Option Addr) (nr cr:Nat) (av:Option Addr) (nv cv:Nat) (ar1:Option Addr) (nr1 cr1:Nat) (av1:Option Addr) (nv1 cv1:Nat) (w:World)
 (H:HdAt w h ar nr cr av nv cv) (H1:HdAt w h1 ar1 nr1 cr1 av1 nv1 cv1) (v:Bool) (hv:Hid (v=decide (sameH h h1))) :
 Calls Tryz.prog 27 #[h.val ar nr cr av nv cv,h1.val ar1 nr1 cr1 av1 nv1 cv1] w fun e w'=>e = .returned (.bool v)∧Below w.heap.size w w':=by
 have hi:=Lib.hid (fun (W:World) (hw:Below w.heap.size w W)=>ints_any av av1 nv nv1 cv cv1 h.voters h1.voters W (H.voters.keep hw) (H1.voters.keep hw) (by have:=H.nv; omega))
 have hmx:=H.nr
 have HN:=Lib.hid H.rlen
 have HN1:=Lib.hid H1.rlen
 have HE:Hid (sameH h h1↔_):=Lib.hid (Iff.rfl)
 obtain⟨tm,vt,bs,bt,rs,sn,vs⟩:=h
 obtain⟨tm1,vt1,bs1,bt1,rs1,sn1,vs1⟩:=h1
 unfold Hd.val
 unfold sameH at hv
 dsimp only at *
 have HR:=Lib.hid (show rcE.Sl w ar nr rs from H.recs)
 have HR1:=Lib.hid (show rcE.Sl w ar1 nr1 rs1 from H1.recs)
 clear H H1 HE
 have HA1:=Lib.hid ((Below.refl w.heap.size w).alloc (Nat.le_refl _) (.cells #[.int .i64 tm,.int .i64 vt,.int .i64 bs,.int .i64 bt,.slice ar nr cr,.string sn,.slice av nv cv] 42))
 have HA2:=Lib.hid (HA1.out.alloc HA1.out.size (.cells #[.int .i64 tm1,.int .i64 vt1,.int .i64 bs1,.int .i64 bt1,.slice ar1 nr1 cr1,.string sn1,.slice av1 nv1 cv1] 42))
 have HX6:Hid (Blk ((w.alloc (.cells #[.int .i64 tm,.int .i64 vt,.int .i64 bs,.int .i64 bt,.slice ar nr cr,.string sn,.slice av nv cv] 42)).alloc (.cells #[.int .i64 tm1,.int .i64 vt1,.int .i64 bs1,.int .i64 bt1,.slice ar1 nr1 cr1,.string sn1,.slice av1 nv1 cv1] 42)) w.heap.size 42 [.int .i64 tm,.int .i64 vt,.int .i64 bs,.int .i64 bt,.slice ar nr cr,.string sn,.slice av nv cv]):=Lib.hid (Blk.alloc (heap_alloc_new w _) _)
 have HX7:Hid (Blk ((w.alloc (.cells #[.int .i64 tm,.int .i64 vt,.int .i64 bs,.int .i64 bt,.slice ar nr cr,.string sn,.slice av nv cv] 42)).alloc (.cells #[.int .i64 tm1,.int .i64 vt1,.int .i64 bs1,.int .i64 bt1,.slice ar1 nr1 cr1,.string sn1,.slice av1 nv1 cv1] 42)) (w.heap.size+1) 42 [.int .i64 tm1,.int .i64 vt1,.int .i64 bs1,.int .i64 bt1,.slice ar1 nr1 cr1,.string sn1,.slice av1 nv1 cv1]):=Lib.hid (by
  have hz:=heap_alloc_new (w.alloc (.cells #[.int .i64 tm,.int .i64 vt,.int .i64 bs,.int .i64 bt,.slice ar nr cr,.string sn,.slice av nv cv] 42)) (.cells #[.int .i64 tm1,.int .i64 vt1,.int .i64 bs1,.int .i64 bt1,.slice ar1 nr1 cr1,.string sn1,.slice av1 nv1 cv1] 42)
  rw [World.size_alloc] at hz
  exact hz)
 have x0:=HX6.out.cell (j:=0) rfl; have x1:=HX6.out.cell (j:=1) rfl; have x2:=HX6.out.cell (j:=2) rfl; have x3:=HX6.out.cell (j:=3) rfl; have x4:=HX6.out.cell (j:=4) rfl; have x5:=HX6.out.cell (j:=5) rfl; have x6:=HX6.out.cell (j:=6) rfl
 have y0:=HX7.out.cell (j:=0) rfl; have y1:=HX7.out.cell (j:=1) rfl; have y2:=HX7.out.cell (j:=2) rfl; have y3:=HX7.out.cell (j:=3) rfl; have y4:=HX7.out.cell (j:=4) rfl; have y5:=HX7.out.cell (j:=5) rfl; have y6:=HX7.out.cell (j:=6) rfl
 by_cases c0:tm=tm1
 rotate_left
 ·skip
  have HV:Hid (v=false):=Lib.hid (by rw [hv.out]; exact decide_eq_false (fun h=>c0 h.1))
  have e0:(tm != tm1)=true:=by simpa using c0
  clear hv c0
  go_enter Tryz.func27,Tryz.ntmps27
  go_wp2_with fail
  go_ret
  exact⟨ret_bool (by rw [HV.out]),HA2.out⟩
 have e0:(tm != tm1)=false:=by simp [c0]
 have C0:=Lib.hid c0
 clear c0
 by_cases c1:vt=vt1
 rotate_left
 ·skip
  have HV:Hid (v=false):=Lib.hid (by rw [hv.out]; exact decide_eq_false (fun h=>c1 h.2.1))
  have e1:(vt != vt1)=true:=by simpa using c1
  clear hv c1
  go_enter Tryz.func27,Tryz.ntmps27
  go_wp2_with fail
  go_ret
  exact⟨ret_bool (by rw [HV.out]),HA2.out⟩
 have e1:(vt != vt1)=false:=by simp [c1]
 have C1:=Lib.hid c1
 clear c1
 by_cases c2:sn=sn1
 rotate_left
 ·skip
  have HV:Hid (v=false):=Lib.hid (by rw [hv.out]; exact decide_eq_false (fun h=>c2 h.2.2.1))
  have e2:¬ sn.toList=sn1.toList:=by simpa using (toList_ne c2)
  clear hv c2
  go_enter Tryz.func27,Tryz.ntmps27
  go_wp2_with fail
  go_ret
  exact⟨ret_bool (by rw [HV.out]),HA2.out⟩
 subst c2
 have c2:sn=sn:=rfl
 have e2:True:=trivial
 have C2:=Lib.hid c2
 clear c2
 by_cases c3:bs=bs1
 rotate_left
 ·skip
  have HV:Hid (v=false):=Lib.hid (by rw [hv.out]; exact decide_eq_false (fun h=>c3 h.2.2.2.1))
  have e3:(bs != bs1)=true:=by simpa using c3
  clear hv c3
  go_enter Tryz.func27,Tryz.ntmps27
  go_wp2_with fail
  go_ret
  exact⟨ret_bool (by rw [HV.out]),HA2.out⟩
 have e3:(bs != bs1)=false:=by simp [c3]
 have C3:=Lib.hid c3
 clear c3
 by_cases c4:bt=bt1
 rotate_left
 ·skip
  have HV:Hid (v=false):=Lib.hid (by rw [hv.out]; exact decide_eq_false (fun h=>c4 h.2.2.2.2.1))
  have e4:(bt != bt1)=true:=by simpa using c4
  clear hv c4
  go_enter Tryz.func27,Tryz.ntmps27
  go_wp2_with fail
  go_ret
  exact⟨ret_bool (by rw [HV.out]),HA2.out⟩
 have e4:(bt != bt1)=false:=by simp [c4]
 have C4:=Lib.hid c4
 clear c4
 by_cases c5:nr=nr1
 rotate_left
 ·skip
  have HV:Hid (v=false):=Lib.hid (by rw [hv.out]; exact decide_eq_false (fun h=>c5 (by have h3:=HN.out; have h4:=HN1.out; have h5:=h.2.2.2.2.2.1; rw [h5] at h3; omega)))
  have e5:((nr:Int) != (nr1:Int))=true:=by rw [bne_iff_ne]; omega
  clear hv c5
  go_enter Tryz.func27,Tryz.ntmps27
  go_wp2_with fail
  go_ret
  exact⟨ret_bool (by rw [HV.out]),HA2.out⟩
 have e5:((nr:Int) != (nr1:Int))=false:=by simp [c5]
 subst c5
 go_enter Tryz.func27,Tryz.ntmps27
 go_wp2_with fail
 refine (hi.out _ HA2.out).mono ?_
 rintro e w1 ⟨rfl,kd,rfl⟩
 dsimp only
 by_cases c6:vs=vs1
 rotate_left
 ·have HV:Hid (v=false):=Lib.hid (by rw [hv.out]; exact decide_eq_false (fun h=>c6 h.2.2.2.2.2.2))
  rw [intsB_no c6]
  clear hv c6
  go_wp2_with fail
  go_ret
  exact⟨ret_bool (by rw [HV.out]),below_drewN HA2.out _⟩
 rw [intsB_yes c6]
 have HV:Hid (v=decide (rs=rs1)):=Lib.hid (by
  rw [hv.out]
  exact decide_eq_decide.2 ⟨fun h=>h.2.2.2.2.2.1,fun h=>⟨C0.out,C1.out,C2.out,C3.out,C4.out,h,c6⟩⟩)
 have HA3:=Lib.hid (below_drewN HA2.out kd)
 have HY6:=Lib.hid (HX6.out.keep (below_drewN (Below.refl _ _) kd))
 have HY7:=Lib.hid (HX7.out.keep (below_drewN (Below.refl _ _) kd))
 clear hv C0 C1 C2 C3 C4 c6 x0 y0 x1 y1 x2 y2 x3 y3 x4 y4 x5 y5 x6 y6 e0 e1 e2 e3 e4 HX6 HX7 hi HA1 HA2
 generalize ((w.alloc (.cells #[.int .i64 tm,.int .i64 vt,.int .i64 bs,.int .i64 bt,.slice ar nr cr,.string sn,.slice av nv cv] 42)).alloc (.cells #[.int .i64 tm1,.int .i64 vt1,.int .i64 bs1,.int .i64 bt1,.slice ar1 nr cr1,.string sn,.slice av1 nv1 cv1] 42)).drewN kd=w1 at *
 have z4:=HY6.out.cell (j:=4) rfl
 have u4:=HY7.out.cell (j:=4) rfl
 have HW1:Hid (w.heap.size+1<w1.heap.size):=Lib.hid (lt_of_block HY7.out)
 go_wp2_with fail
 clear z4 u4
 go_loopg [5,66] nr (fun gk v5 i wr=>∃ k:Nat,k≤nr∧gk=nr - k∧i = .int .i64 (k:Int)∧Hid (Below w1.heap.size w1 wr)∧Hid (∀ j (h1:j<rs.length) (h2:j<rs1.length),j<k→rs[j]=rs1[j]))
 case atStart=>exact⟨0,Nat.zero_le _,rfl,rfl,Lib.hid (Below.refl _ _),Lib.hid (fun j _ _ h=>absurd h (Nat.not_lt_zero _))⟩
 case round =>
  obtain⟨k,hk,rfl,rfl,hB,hall⟩:=hrel
  have HBB:=Lib.hid (below_then HA3.out hB.out HA3.out.size)
  by_cases hkn:k<nr
  ·have hki:(k:Int)<(nr:Int):=by omega
   have hkl:k<rs.length:=by rw [← HN.out]; exact hkn
   have hkl1:k<rs1.length:=by rw [← HN1.out]; exact hkn
   have z4:=(HY6.out.keep hB.out).cell (j:=4) rfl
   have u4:=(HY7.out.keep hB.out).cell (j:=4) rfl
   obtain⟨b,off,rfl,hc⟩:=rc_at (HR.out.keep HBB.out) (by omega)
   obtain⟨b',off',rfl,hc'⟩:=rc_at (HR1.out.keep HBB.out) (by omega)
   obtain⟨d0,d1,d2⟩:=hc k hkl
   obtain⟨f0,f1,f2⟩:=hc' k hkl1
   clear hc hc'
   by_cases hq:rs[k]=rs1[k]
   ·have hall2:Hid (∀ j (h1:j<rs.length) (h2:j<rs1.length),j<k+1→rs[j]=rs1[j]):=Lib.hid fun j h1 h2 h3=>by
     by_cases hjk:j=k
     ·subst hjk; exact hq
     ·exact hall.out j h1 h2 (by omega)
    rw [← hq] at f0 f1 f2
    have hnf:=neqRec
    clear hq hall
    generalize rs[k]=r at *
    obtain⟨rt,rk,rd⟩:=r
    dsimp only at *
    go_wp2_with fail
    go_quiet (fail)
    go_wp2_with fail
    go_roundg (nr - (k+1))
    case rel=>exact⟨k+1,by omega,rfl,by go_num,Lib.hid (below_drewN hB.out _),hall2⟩
    case measure=>omega
   ·have HF:Hid (v=false):=Lib.hid (by rw [HV.out]; exact decide_eq_false (fun e=>hq (by subst e; rfl)))
    have hnf:=fun w=>neqRec_any rs[k] rs1[k] w
    rw [decide_eq_false hq] at hnf
    clear hq hall HV
    generalize rs[k]=r at *
    generalize rs1[k]=s at *
    obtain⟨rt,rk,rd⟩:=r
    obtain⟨st,sk,sd⟩:=s
    dsimp only [Bool.not_false] at *
    go_wp2_with fail
    go_quiet (fail)
    go_wp2_with fail
    go_ret
    exact⟨ret_bool (by rw [HF.out]),below_drewN HBB.out _⟩
  ·have hki:(nr:Int)≤(k:Int):=by omega
   have HF:Hid (v=true):=Lib.hid (by
    rw [HV.out]
    exact decide_eq_true (list_ext_upto rs rs1 (by rw [← HN.out,← HN1.out]) fun j h1 h2=>hall.out j h1 h2 (by have:=HN.out; omega)))
   clear HV hall
   go_wp2_with fail
   go_ret
   exact⟨ret_bool (by rw [HF.out]),HBB.out⟩
end Go.Proofs.YtlpgbmaoenncjaaGreatDoor

/-
  The walks of within and its like, of quorum.Right and the reference's Right of voters: nothing is changed; the slices within reach.
-/
import Derived.Test.YtlpgbmaoenncjaaGreatDoorGen
import Derived.Test.YtlpgbmaoenncjaaGreatDoorRows
import Derived.Deep.LoopGhost
namespace Go.Proofs.YtlpgbmaoenncjaaGreatDoor
open Go.RowKit
set_option linter.unusedVariables false
def inB (n lo hi:Int):Bool:=decide (lo≤n)&&decide (n≤hi)
set_option maxHeartbeats 1000000 in
theorem eWithin_any (n lo hi:Int) (w:World) (v:Bool) (hv:Hid (v=inB n lo hi)):Calls Tryz.prog 73 #[.int .i64 n,.int .i64 lo,.int .i64 hi] w fun e w'=>e = .returned (.bool v)∧w=w':=by
 go_enter Tryz.func73,Tryz.ntmps73
 go_wp2_with fail
 all_goals (go_ret; refine⟨ret_bool ?_,rfl⟩; rw [hv.out]; unfold inB; rw [Bool.eq_iff_iff]; simp; omega)
set_option maxHeartbeats 1000000 in
theorem jWithin_any (n lo hi:Int) (w:World) (v:Bool) (hv:Hid (v=inB n lo hi)):Calls Tryz.prog 125 #[.int .i64 n,.int .i64 lo,.int .i64 hi] w fun e w'=>e = .returned (.bool v)∧w=w':=by
 go_enter Tryz.func125,Tryz.ntmps125
 go_wp2_with fail
 all_goals (go_ret; refine⟨ret_bool ?_,rfl⟩; rw [hv.out]; unfold inB; rw [Bool.eq_iff_iff]; simp; omega)
set_option maxHeartbeats 1000000 in
theorem in17_any (n lo hi:Int) (w:World) (v:Bool) (hv:Hid (v=inB n lo hi)):Calls Tryz.prog 83 #[.int .i64 n,.int .i64 lo,.int .i64 hi] w fun e w'=>e = .returned (.bool v)∧w=w':=by
 go_enter Tryz.func83,Tryz.ntmps83
 go_wp2_with fail
 all_goals (go_ret; refine⟨ret_bool ?_,rfl⟩; rw [hv.out]; unfold inB; rw [Bool.eq_iff_iff]; simp; omega)
set_option maxHeartbeats 1000000 in
theorem in15_any (n lo hi:Int) (w:World) (v:Bool) (hv:Hid (v=inB n lo hi)):Calls Tryz.prog 130 #[.int .i64 n,.int .i64 lo,.int .i64 hi] w fun e w'=>e = .returned (.bool v)∧w=w':=by
 go_enter Tryz.func130,Tryz.ntmps130
 go_wp2_with fail
 all_goals (go_ret; refine⟨ret_bool ?_,rfl⟩; rw [hv.out]; unfold inB; rw [Bool.eq_iff_iff]; simp; omega)
set_option maxRecDepth 100000 in
set_option maxHeartbeats 1000000 in
theorem qRight_any (a:Option Addr) (n c:Nat) (l:List Int) (w:World) (h:SlAt w a n (i64s l)) (hn:n≤100000000000000) (v:Bool) (hv:Hid (v=rightV l)) :
 Calls Tryz.prog 72 #[.slice a n c] w fun e w'=>e = .returned (.bool v)∧Below w.heap.size w w':=by
 have HN:Hid (n=l.length):=Lib.hid (by have:=h.1; rw [i64s_length] at this; exact this)
 have H:=Lib.hid h
 clear h
 by_cases h1:1≤(n:Int)∧(n:Int)≤7
 ·have b1:decide ((n:Int)<1)=false:=decide_eq_false (by omega)
  have b2:decide (7<(n:Int))=false:=decide_eq_false (by omega)
  have HV:Hid (v=(List.range l.length).all (goodV l)):=Lib.hid (by rw [hv.out]; unfold rightV; rw [decide_eq_true (by have:=HN.out; omega),Bool.true_and])
  clear hv h1
  go_enter Tryz.func72,Tryz.ntmps72
  go_wp2_with fail
  go_loopg [15] n (fun gk i wr=>∃ k:Nat,k≤n∧gk=n - k∧i = .int .i64 (k:Int)∧Hid (∀ i,i<k→goodV l i=true)∧Hid (Below w.heap.size w wr))
  case atStart=>exact⟨0,Nat.zero_le _,rfl,rfl,Lib.hid (fun i h=>absurd h (Nat.not_lt_zero _)),Lib.hid (Below.refl _ _)⟩
  case round =>
   obtain⟨k,hk,rfl,rfl,hA,hB⟩:=hrel
   by_cases hkn:k<n
   ·have hki:(k:Int)<(n:Int):=by omega
    have hkl:k<l.length:=by rw [← HN.out]; exact hkn
    obtain⟨-,b,off,rfl,hc⟩:=(H.out.keep hB.out).i64 (by omega)
    have HA0:=Lib.hid trivial
    have hno:Hid (goodV l k=false→v=false):=Lib.hid (fun h=>by rw [HV.out]; exact not_range hkl h)
    have hyes:Hid (goodV l k=true→∀ i,i<k+1→goodV l i=true):=Lib.hid (fun h i hi=>by
     by_cases hik:i=k
     ·subst hik; exact h
     ·exact hA.out i (by omega))
    rcases k with _ | j
    ·have c0:=hc 0 (by omega)
     have HG0:Hid (goodV l 0=decide (1≤l[0]∧l[0]≤9)):=Lib.hid (by rw [goodV_is l 0 (by omega)]; simp)
     simp only [Nat.add_zero] at c0
     clear hc HA0
     by_cases hx1:l[0]<1
     ·obtain rfl:v=false:=hno.out (by rw [HG0.out,decide_eq_false (by omega)])
      clear HG0 hno hyes
      generalize l[0]=x at *
      go_wp2_with fail
      go_ret
      exact⟨rfl,hB.out⟩
     ·by_cases hx2:9<l[0]
      ·obtain rfl:v=false:=hno.out (by rw [HG0.out,decide_eq_false (by omega)])
       clear HG0 hno hyes
       generalize l[0]=x at *
       go_wp2_with fail
       go_ret
       exact⟨rfl,hB.out⟩
      ·have hA2:=Lib.hid (hyes.out (by rw [HG0.out,decide_eq_true (by omega)]))
       clear HG0 hno hyes
       generalize l[0]=x at *
       go_wp2_with fail
       go_roundg (n - (0+1))
       case rel=>exact⟨0+1,by omega,rfl,by go_num,hA2,hB⟩
       case measure=>omega
    ·have hjl:j<l.length:=by omega
     have ck:=hc (j+1) hkl
     have cj:=hc j hjl
     have HG:Hid (goodV l (j+1)=(decide (1≤l[j+1]∧l[j+1]≤9)&&decide (l[j]<l[j+1]))):=Lib.hid (by rw [goodV_is l (j+1) hkl]; simp)
     have hj0:(0:Int)<(j:Int)+1:=by omega
     have hj1:(j:Int)<(n:Int):=by omega
     clear hc HA0
     by_cases hx1:l[j+1]<1
     ·obtain rfl:v=false:=hno.out (by rw [HG.out,decide_eq_false (by omega)]; rfl)
      clear HG hno hyes
      generalize l[j+1]=x at *
      go_wp2_with fail
      go_ret
      exact⟨rfl,hB.out⟩
     ·by_cases hx2:9<l[j+1]
      ·obtain rfl:v=false:=hno.out (by rw [HG.out,decide_eq_false (by omega)]; rfl)
       clear HG hno hyes
       generalize l[j+1]=x at *
       go_wp2_with fail
       go_ret
       exact⟨rfl,hB.out⟩
      ·by_cases hx3:l[j]<l[j+1]
       ·have hA2:=Lib.hid (hyes.out (by rw [HG.out,decide_eq_true (by omega),decide_eq_true hx3]; rfl))
        have b3:decide (l[j+1]≤l[j])=false:=decide_eq_false (by omega)
        clear HG hno hyes
        generalize l[j+1]=x at *
        generalize l[j]=y at *
        go_wp2_with fail
        go_roundg (n - (j+1+1))
        case rel=>exact⟨j+1+1,by omega,rfl,by go_num,hA2,hB⟩
        case measure=>omega
       ·obtain rfl:v=false:=hno.out (by rw [HG.out,decide_eq_false hx3,Bool.and_false])
        have b3:decide (l[j+1]≤l[j])=true:=decide_eq_true (by omega)
        clear HG hno hyes
        generalize l[j+1]=x at *
        generalize l[j]=y at *
        go_wp2_with fail
        go_ret
        exact⟨rfl,hB.out⟩
   ·have hki:(n:Int)≤(k:Int):=by omega
    have hvt:v=true:=by rw [HV.out]; exact all_range (by rw [← HN.out]; omega) hA.out
    subst hvt
    go_wp2_with fail
    go_ret
    exact⟨rfl,hB.out⟩
 ·have hvf:v=false:=by rw [hv.out]; unfold rightV; rw [decide_eq_false (by have:=HN.out; omega),Bool.false_and]
  subst hvf
  clear hv
  by_cases h2:(n:Int)<1
  ·have b1:decide ((n:Int)<1)=true:=decide_eq_true h2
   go_enter Tryz.func72,Tryz.ntmps72
   go_wp2_with fail
   go_ret
   exact⟨rfl,Below.refl _ _⟩
  ·have b1:decide ((n:Int)<1)=false:=decide_eq_false h2
   have b2:decide (7<(n:Int))=true:=decide_eq_true (by omega)
   go_enter Tryz.func72,Tryz.ntmps72
   go_wp2_with fail
   go_ret
   exact⟨rfl,Below.refl _ _⟩
set_option maxRecDepth 100000 in
set_option maxHeartbeats 1000000 in
theorem rRight_any (a:Option Addr) (n c:Nat) (l:List Int) (w:World) (h:SlAt w a n (i64s l)) (hn:n≤100000000000000) (v:Bool) (hv:Hid (v=rightV l)) :
 Calls Tryz.prog 84 #[.slice a n c] w fun e w'=>e = .returned (.bool v)∧Below w.heap.size w w':=by
 have HN:Hid (n=l.length):=Lib.hid (by have:=h.1; rw [i64s_length] at this; exact this)
 have H:=Lib.hid h
 clear h
 go_enter Tryz.func84,Tryz.ntmps84
 go_wp2_with fail
 go_loopg [7] n (fun gk i wr=>∃ k:Nat,k≤n∧gk=n - k∧i = .int .i64 (k:Int)∧Hid (∀ i,i<k→goodV l i=true)∧Hid (Below w.heap.size w wr))
 case atStart=>exact⟨0,Nat.zero_le _,rfl,rfl,Lib.hid (fun i h=>absurd h (Nat.not_lt_zero _)),Lib.hid (Below.refl _ _)⟩
 case round =>
  obtain⟨k,hk,rfl,rfl,hA,hB⟩:=hrel
  by_cases hkn:k<n
  ·have hki:(k:Int)<(n:Int):=by omega
   have hkl:k<l.length:=by rw [← HN.out]; exact hkn
   obtain⟨-,b,off,rfl,hc⟩:=(H.out.keep hB.out).i64 (by omega)
   have HA0:=Lib.hid trivial
   have hno:Hid (goodV l k=false→v=false):=Lib.hid (fun h=>by rw [hv.out]; unfold rightV; rw [not_range hkl h,Bool.and_false])
   have hyes:Hid (goodV l k=true→∀ i,i<k+1→goodV l i=true):=Lib.hid (fun h i hi=>by
    by_cases hik:i=k
    ·subst hik; exact h
    ·exact hA.out i (by omega))
   rcases k with _ | j
   ·have c0:=hc 0 (by omega)
    have HG0:Hid (goodV l 0=decide (1≤l[0]∧l[0]≤9)):=Lib.hid (by rw [goodV_is l 0 (by omega)]; simp)
    simp only [Nat.add_zero] at c0
    clear hc HA0
    by_cases hx1:l[0]<1
    ·obtain rfl:v=false:=hno.out (by rw [HG0.out,decide_eq_false (by omega)])
     clear HG0 hno hyes
     generalize l[0]=x at *
     go_wp2_with fail
     go_ret
     exact⟨rfl,hB.out⟩
    ·by_cases hx2:9<l[0]
     ·obtain rfl:v=false:=hno.out (by rw [HG0.out,decide_eq_false (by omega)])
      clear HG0 hno hyes
      generalize l[0]=x at *
      go_wp2_with fail
      go_ret
      exact⟨rfl,hB.out⟩
     ·have hA2:=Lib.hid (hyes.out (by rw [HG0.out,decide_eq_true (by omega)]))
      clear HG0 hno hyes
      generalize l[0]=x at *
      go_wp2_with fail
      go_roundg (n - (0+1))
      case rel=>exact⟨0+1,by omega,rfl,by go_num,hA2,hB⟩
      case measure=>omega
   ·have hjl:j<l.length:=by omega
    have ck:=hc (j+1) hkl
    have cj:=hc j hjl
    have HG:Hid (goodV l (j+1)=(decide (1≤l[j+1]∧l[j+1]≤9)&&decide (l[j]<l[j+1]))):=Lib.hid (by rw [goodV_is l (j+1) hkl]; simp)
    have hj0:(0:Int)<(j:Int)+1:=by omega
    have hj1:(j:Int)<(n:Int):=by omega
    clear hc HA0
    by_cases hx1:l[j+1]<1
    ·obtain rfl:v=false:=hno.out (by rw [HG.out,decide_eq_false (by omega)]; rfl)
     clear HG hno hyes
     generalize l[j+1]=x at *
     go_wp2_with fail
     go_ret
     exact⟨rfl,hB.out⟩
    ·by_cases hx2:9<l[j+1]
     ·obtain rfl:v=false:=hno.out (by rw [HG.out,decide_eq_false (by omega)]; rfl)
      clear HG hno hyes
      generalize l[j+1]=x at *
      go_wp2_with fail
      go_ret
      exact⟨rfl,hB.out⟩
     ·by_cases hx3:l[j]<l[j+1]
      ·have hA2:=Lib.hid (hyes.out (by rw [HG.out,decide_eq_true (by omega),decide_eq_true hx3]; rfl))
       have b3:decide (l[j+1]≤l[j])=false:=decide_eq_false (by omega)
       clear HG hno hyes
       generalize l[j+1]=x at *
       generalize l[j]=y at *
       go_wp2_with fail
       go_roundg (n - (j+1+1))
       case rel=>exact⟨j+1+1,by omega,rfl,by go_num,hA2,hB⟩
       case measure=>omega
      ·obtain rfl:v=false:=hno.out (by rw [HG.out,decide_eq_false hx3,Bool.and_false])
       have b3:decide (l[j+1]≤l[j])=true:=decide_eq_true (by omega)
       clear HG hno hyes
       generalize l[j+1]=x at *
       generalize l[j]=y at *
       go_wp2_with fail
       go_ret
       exact⟨rfl,hB.out⟩
  ·have hki:(n:Int)≤(k:Int):=by omega
   have HV2:Hid (v=decide (1≤l.length∧l.length≤7)):=Lib.hid (by rw [hv.out]; unfold rightV; rw [all_range (by rw [← HN.out]; omega) hA.out,Bool.and_true])
   clear hv
   by_cases h1:1≤(n:Int)
   ·have b1:decide (1≤(n:Int))=true:=decide_eq_true h1
    have HV3:Hid (v=decide ((n:Int)≤7)):=Lib.hid (by
     rw [HV2.out]
     congr 1
     exact propext ⟨fun h=>by have:=HN.out; omega,fun h=>by have:=HN.out; omega⟩)
    clear HV2
    go_wp2_with fail
    go_ret
    exact⟨ret_bool HV3.out.symm,hB.out⟩
   ·have b1:decide (1≤(n:Int))=false:=decide_eq_false h1
    obtain rfl:v=false:=by rw [HV2.out]; exact decide_eq_false (by have:=HN.out; omega)
    clear HV2
    go_wp2_with fail
    go_ret
    exact⟨rfl,hB.out⟩
end Go.Proofs.YtlpgbmaoenncjaaGreatDoor

/-
  The walks of journal.Right and of the reference's Right of a log: new blocks alone are made; the slices within reach. (Written by wip/mknmb.py.)
-/
import Derived.Test.YtlpgbmaoenncjaaGreatDoorNmA
import Derived.Test.YtlpgbmaoenncjaaGreatDoorGen
namespace Go.Proofs.YtlpgbmaoenncjaaGreatDoor
open Go.RowKit
set_option linter.unusedVariables false
def rcE:Enc Rc where
 k:=3
 enc r:=[.int .i64 r.term,.int .i64 r.kind,.string r.data]
 len _:=rfl
 one r u hu:=by
  simp at hu
  rcases hu with rfl | rfl | rfl <;> rfl
 pos:=by decide
theorem rc_at {w:World}{a:Option Addr}{n:Nat}{l:List Rc}(h:rcE.Sl w a n l) (hn:0<n):∃ b off,a=some ⟨b,off,none⟩∧∀ (i:Nat) (hi:i<l.length),w.cell? ⟨b,off+i*3,none⟩=some (.int .i64 l[i].term)∧w.cell? ⟨b,off+i*3+1,none⟩=some (.int .i64 l[i].kind)∧w.cell? ⟨b,off+i*3+2,none⟩=some (.string l[i].data):=by
 rcases h.2 with rfl | ⟨b,off,ha,hc⟩
 ·have:=h.1; simp at this; omega
 ·exact⟨b,off,ha,fun i hi=>⟨hc i hi 0 _ rfl,hc i hi 1 _ rfl,hc i hi 2 _ rfl⟩⟩
def Rc.wf (r:Rc):Prop:=r.data.size≤maxLen
def lastT (bt:Int) (l:List Rc) (i:Nat):Int:=match i with
 | 0=>bt
 | j+1=>match l[j]? with
   | none=>0
   | some y=>y.term
theorem lastT_next (bt:Int) (l:List Rc) (i:Nat) (h:i<l.length):lastT bt l (i+1)=l[i].term:=by
 unfold lastT
 dsimp only
 rw [List.getElem?_eq_getElem h]
theorem termAt_last (bt:Int) (l:List Rc) (i:Nat) (h:i≤l.length):termAt bt l i=max (lastT bt l i) 1:=by
 unfold termAt lastT
 cases i with
 | zero=>rfl
 | succ j=>dsimp only; rw [List.getElem?_eq_getElem (show j<l.length by omega)]
theorem jw_any (n lo hi:Int) (w:World):Calls Tryz.prog 125 #[.int .i64 n,.int .i64 lo,.int .i64 hi] w fun e w'=>e = .returned (.bool (decide (lo≤n)&&decide (n≤hi)))∧w=w':=jWithin_any n lo hi w _ (Lib.hid rfl)
theorem iw_any (n lo hi:Int) (w:World):Calls Tryz.prog 130 #[.int .i64 n,.int .i64 lo,.int .i64 hi] w fun e w'=>e = .returned (.bool (decide (lo≤n)&&decide (n≤hi)))∧w=w':=in15_any n lo hi w _ (Lib.hid rfl)
set_option maxRecDepth 100000 in
set_option maxHeartbeats 1000000 in
theorem jRight_any (a:Option Addr) (n c:Nat) (base bt:Int) (l:List Rc) (w:World) (h:rcE.Sl w a n l) (hn:n≤100000000000000) (hwf:∀ r∈l,r.wf) (v:Bool) (hv:Hid (v=rightG base bt l)) :
 Calls Tryz.prog 74 #[.agg #[.int .i64 base,.int .i64 bt,.slice a n c]] w fun e w'=>e = .returned (.bool v)∧Below w.heap.size w w':=by
 have HN:Hid (n=l.length):=Lib.hid h.1
 have HB0:=Lib.hid ((Below.refl _ w).alloc (Nat.le_refl _) (.cells #[.int .i64 base,.int .i64 bt,.slice a n c] 40))
 have HK0:Hid (Blk (w.alloc (.cells #[.int .i64 base,.int .i64 bt,.slice a n c] 40)) w.heap.size 40 [.int .i64 base,.int .i64 bt,.slice a n c]):=Lib.hid (heap_alloc_new w _)
 have H:=Lib.hid h
 clear h
 by_cases hh:headG base bt n
 ·have hh2:=hh
  obtain⟨g1,g2,g3,g4,g5,g6,g7⟩:=hh2
  have HV:Hid (v=rightR bt l):=Lib.hid (by rw [hv.out]; unfold rightG; rw [← HN.out,decide_eq_true hh,Bool.true_and])
  have b5:(base==0)=(bt==0):=by rw [Bool.eq_iff_iff,beq_iff_eq,beq_iff_eq]; exact g5
  obtain⟨T,hT⟩:∃ T,max bt 1=T:=⟨_,rfl⟩
  have b6:decide (200<(n:Int))=false:=decide_eq_false (by omega)
  have b7:decide (1073741824 - (n:Int)<base)=false:=decide_eq_false (by omega)
  have q1:=decide_eq_true g1
  have q2:=decide_eq_true g2
  have q3:=decide_eq_true g3
  have q4:=decide_eq_true g4
  clear hv hh g1 g2 g3 g4 g5
  go_enter Tryz.func74,Tryz.ntmps74
  have k0:=HK0.out.cell (j:=0) rfl
  have k1:=HK0.out.cell (j:=1) rfl
  have k2:=HK0.out.cell (j:=2) rfl
  go_wp2_with (go_at_call 125; refine (jw_any _ _ _ _).mono ?_; rintro e w' ⟨rfl,rfl⟩)
  all_goals (
   clear k0 k1 k2 hT b5 b6 b7 q1 q2 q3 q4
   generalize w.alloc (.cells #[.int .i64 base,.int .i64 bt,.slice a n c] 40)=W at *
   go_loopg [3,46] n (fun gk t i wr=>∃ k:Nat,k≤n∧gk=n - k∧i = .int .i64 (k:Int)∧t = .int .i64 (termAt bt l k)∧Hid (∀ i,i<k→goodR bt l i=true)∧Hid (Below W.heap.size W wr))
   case atStart=>exact⟨0,Nat.zero_le _,rfl,rfl,(by show Value.int .i64 _=Value.int .i64 (max bt 1); congr 1; omega),Lib.hid (fun i h=>absurd h (Nat.not_lt_zero _)),Lib.hid (Below.refl _ _)⟩
   case round =>
    obtain⟨k,hk,rfl,rfl,rfl,hA,hB⟩:=hrel
    have HBW:=Lib.hid (below_then HB0.out hB.out HB0.out.size)
    by_cases hkn:k<n
    ·have hki:(k:Int)<(n:Int):=by omega
     have hkl:k<l.length:=by rw [← HN.out]; exact hkn
     obtain⟨b,off,rfl,hc⟩:=rc_at (H.out.keep HBW.out) (by omega)
     obtain⟨c0,c1,c2⟩:=hc k hkl
     have hsz:=hwf l[k] (List.getElem_mem hkl)
     unfold Rc.wf at hsz
     have HG:=Lib.hid (goodR_is bt l k hkl)
     have HX:=Lib.hid (termAt_next bt l k hkl)
     have HTL:=Lib.hid (termAt_last bt l k (by omega))
     have hno:Hid (goodR bt l k=false→v=false):=Lib.hid (fun h=>by rw [HV.out]; exact not_range hkl h)
     have hyes:Hid (goodR bt l k=true→∀ i,i<k+1→goodR bt l i=true):=Lib.hid (fun h i hi=>by
      by_cases hik:i=k
      ·subst hik; exact h
      ·exact hA.out i (by omega))
     have HBr:=Lib.hid (HBW.out.alloc HBW.out.size (.cells #[.int .i64 l[k].term,.int .i64 l[k].kind,.string l[k].data] 67))
     have HBq:=Lib.hid (hB.out.alloc hB.out.size (.cells #[.int .i64 l[k].term,.int .i64 l[k].kind,.string l[k].data] 67))
     clear hc
     generalize l[k]=r at *
     obtain⟨rt,rk,rd⟩:=r
     obtain⟨T,hT⟩:∃ T,T=termAt bt l k:=⟨_,rfl⟩
     have HTE:=Lib.hid hT
     rw [← hT]
     rw [← hT] at HTL
     clear hT
     dsimp only at *
     by_cases hg:termAt bt l k≤rt∧rt≤1073741824∧0≤rk∧rk≤2∧rd.size≤8192
     ·have hA2:=Lib.hid (hyes.out (by rw [HG.out]; exact decide_eq_true hg))
      have hg2:=hg
      obtain⟨g1,g2,g3,g4,g5⟩:=hg2
      have e1:decide (T≤rt)=true:=decide_eq_true (by rw [HTE.out]; exact g1)
      have e2:=decide_eq_true g2
      have e5:decide (8192<(rd.size:Int))=false:=decide_eq_false (by omega)
      have HG1:=Lib.hid g1
      have e3:=decide_eq_true g3
      have e4:=decide_eq_true g4
      clear HG hno hyes hg g1 g2 g3 g4 g5
      go_wp2_with (go_at_call 125; refine (jw_any _ _ _ _).mono ?_; rintro e w' ⟨rfl,rfl⟩)
      go_roundg (n - (k+1))
      case rel=>exact⟨k+1,by omega,rfl,by go_num,(by rw [HX.out]; congr 1; have h1:=HTL.out; have h2:=HTE.out; have h3:=HG1.out; omega),hA2,HBq⟩
      case measure=>omega
     ·obtain rfl:v=false:=hno.out (by rw [HG.out]; exact decide_eq_false hg)
      have HGN:=Lib.hid hg
      clear HG hno hyes hg HX
      go_wp2_with (go_at_call 125; refine (jw_any _ _ _ _).mono ?_; rintro e w' ⟨rfl,rfl⟩)
      all_goals first
       | (go_ret; exact⟨rfl,HBr.out⟩)
       | (exfalso; have h1:=HGN.out; have h2:=HTL.out; have h3:=HTE.out; omega)
    ·have hki:(n:Int)≤(k:Int):=by omega
     have hvt:v=true:=by rw [HV.out]; exact all_range (by rw [← HN.out]; omega) hA.out
     subst hvt
     go_wp2_with fail
     go_ret
     exact⟨rfl,HBW.out⟩)
 ·have hvf:v=false:=by rw [hv.out]; unfold rightG; rw [← HN.out,decide_eq_false hh,Bool.false_and]
  subst hvf
  clear hv
  unfold headG at hh
  have HH:=Lib.hid hh
  clear hh
  by_cases hb0:base=0
  ·have e0:(base==0)=true:=by simp [hb0]
   by_cases hb1:bt=0
   ·have e1:(bt==0)=true:=by simp [hb1]
    have HB01:=Lib.hid (And.intro hb0 hb1)
    clear hb0 hb1
    go_enter Tryz.func74,Tryz.ntmps74
    go_wp2_with (go_at_call 125; refine (jw_any _ _ _ _).mono ?_; rintro e w' ⟨rfl,rfl⟩)
    all_goals first
     | (go_ret; exact⟨rfl,HB0.out⟩)
     | (exfalso; have h1:=HH.out; have h2:=HB01.out; omega)
   ·have e1:(bt==0)=false:=by simp [hb1]
    have HB01:=Lib.hid (And.intro hb0 hb1)
    clear hb0 hb1
    go_enter Tryz.func74,Tryz.ntmps74
    go_wp2_with (go_at_call 125; refine (jw_any _ _ _ _).mono ?_; rintro e w' ⟨rfl,rfl⟩)
    all_goals first
     | (go_ret; exact⟨rfl,HB0.out⟩)
     | (exfalso; have h1:=HH.out; have h2:=HB01.out; omega)
  ·have e0:(base==0)=false:=by simp [hb0]
   by_cases hb1:bt=0
   ·have e1:(bt==0)=true:=by simp [hb1]
    have HB01:=Lib.hid (And.intro hb0 hb1)
    clear hb0 hb1
    go_enter Tryz.func74,Tryz.ntmps74
    go_wp2_with (go_at_call 125; refine (jw_any _ _ _ _).mono ?_; rintro e w' ⟨rfl,rfl⟩)
    all_goals first
     | (go_ret; exact⟨rfl,HB0.out⟩)
     | (exfalso; have h1:=HH.out; have h2:=HB01.out; omega)
   ·have e1:(bt==0)=false:=by simp [hb1]
    have HB01:=Lib.hid (And.intro hb0 hb1)
    clear hb0 hb1
    go_enter Tryz.func74,Tryz.ntmps74
    go_wp2_with (go_at_call 125; refine (jw_any _ _ _ _).mono ?_; rintro e w' ⟨rfl,rfl⟩)
    all_goals first
     | (go_ret; exact⟨rfl,HB0.out⟩)
     | (exfalso; have h1:=HH.out; have h2:=HB01.out; omega)
set_option maxRecDepth 100000 in
set_option maxHeartbeats 1000000 in
theorem r15Right_any (a:Option Addr) (n c:Nat) (base bt:Int) (l:List Rc) (w:World) (h:rcE.Sl w a n l) (hn:n≤100000000000000) (hwf:∀ r∈l,r.wf) (v:Bool) (hv:Hid (v=rightG base bt l)) :
 Calls Tryz.prog 85 #[.agg #[.int .i64 base,.int .i64 bt,.slice a n c]] w fun e w'=>e = .returned (.bool v)∧Below w.heap.size w w':=by
 have HN:Hid (n=l.length):=Lib.hid h.1
 have HB0:=Lib.hid ((Below.refl _ w).alloc (Nat.le_refl _) (.cells #[.int .i64 base,.int .i64 bt,.slice a n c] 40))
 have HK0:Hid (Blk (w.alloc (.cells #[.int .i64 base,.int .i64 bt,.slice a n c] 40)) w.heap.size 40 [.int .i64 base,.int .i64 bt,.slice a n c]):=Lib.hid (heap_alloc_new w _)
 have H:=Lib.hid h
 clear h
 by_cases hh:headG base bt n
 ·have hh2:=hh
  obtain⟨g1,g2,g3,g4,g5,g6,g7⟩:=hh2
  have HV:Hid (v=rightR bt l):=Lib.hid (by rw [hv.out]; unfold rightG; rw [← HN.out,decide_eq_true hh,Bool.true_and])
  have b5:(base==0)=(bt==0):=by rw [Bool.eq_iff_iff,beq_iff_eq,beq_iff_eq]; exact g5
  obtain⟨T,hT⟩:∃ T,max bt 1=T:=⟨_,rfl⟩
  have b6:decide (200<(n:Int))=false:=decide_eq_false (by omega)
  have b7:decide (1073741824 - (n:Int)<base)=false:=decide_eq_false (by omega)
  have q1:=decide_eq_true g1
  have q2:=decide_eq_true g2
  have q3:=decide_eq_true g3
  have q4:=decide_eq_true g4
  clear hv hh g1 g2 g3 g4 g5
  go_enter Tryz.func85,Tryz.ntmps85
  have k0:=HK0.out.cell (j:=0) rfl
  have k1:=HK0.out.cell (j:=1) rfl
  have k2:=HK0.out.cell (j:=2) rfl
  go_wp2_with (go_at_call 130; refine (iw_any _ _ _ _).mono ?_; rintro e w' ⟨rfl,rfl⟩)
  all_goals (
   clear k0 k1 k2 hT b5 b6 b7 q1 q2 q3 q4
   generalize w.alloc (.cells #[.int .i64 base,.int .i64 bt,.slice a n c] 40)=W at *
   go_loopg [3,45] n (fun gk t i wr=>∃ k:Nat,k≤n∧gk=n - k∧i = .int .i64 (k:Int)∧t = .int .i64 (lastT bt l k)∧Hid (∀ i,i<k→goodR bt l i=true)∧Hid (Below W.heap.size W wr))
   case atStart=>exact⟨0,Nat.zero_le _,rfl,rfl,rfl,Lib.hid (fun i h=>absurd h (Nat.not_lt_zero _)),Lib.hid (Below.refl _ _)⟩
   case round =>
    obtain⟨k,hk,rfl,rfl,rfl,hA,hB⟩:=hrel
    have HBW:=Lib.hid (below_then HB0.out hB.out HB0.out.size)
    by_cases hkn:k<n
    ·have hki:(k:Int)<(n:Int):=by omega
     have hkl:k<l.length:=by rw [← HN.out]; exact hkn
     obtain⟨b,off,rfl,hc⟩:=rc_at (H.out.keep HBW.out) (by omega)
     obtain⟨c0,c1,c2⟩:=hc k hkl
     have hsz:=hwf l[k] (List.getElem_mem hkl)
     unfold Rc.wf at hsz
     have HG:=Lib.hid (goodR_is bt l k hkl)
     have HX:=Lib.hid (lastT_next bt l k hkl)
     have HTL:=Lib.hid (termAt_last bt l k (by omega))
     have hno:Hid (goodR bt l k=false→v=false):=Lib.hid (fun h=>by rw [HV.out]; exact not_range hkl h)
     have hyes:Hid (goodR bt l k=true→∀ i,i<k+1→goodR bt l i=true):=Lib.hid (fun h i hi=>by
      by_cases hik:i=k
      ·subst hik; exact h
      ·exact hA.out i (by omega))
     have HBr:=Lib.hid (HBW.out.alloc HBW.out.size (.cells #[.int .i64 l[k].term,.int .i64 l[k].kind,.string l[k].data] 67))
     have HBq:=Lib.hid (hB.out.alloc hB.out.size (.cells #[.int .i64 l[k].term,.int .i64 l[k].kind,.string l[k].data] 67))
     clear hc
     generalize l[k]=r at *
     obtain⟨rt,rk,rd⟩:=r
     obtain⟨T,hT⟩:∃ T,T=lastT bt l k:=⟨_,rfl⟩
     have HTE:=Lib.hid hT
     rw [← hT]
     clear hT
     dsimp only at *
     by_cases hg:termAt bt l k≤rt∧rt≤1073741824∧0≤rk∧rk≤2∧rd.size≤8192
     ·have hA2:=Lib.hid (hyes.out (by rw [HG.out]; exact decide_eq_true hg))
      have hg2:=hg
      obtain⟨g1,g2,g3,g4,g5⟩:=hg2
      have e0:decide (rt<1)=false:=decide_eq_false (by have:=HTL.out; omega)
      have e1:decide (rt<T)=false:=decide_eq_false (by have:=HTL.out; have h2:=HTE.out; omega)
      have e2:decide (1073741824<rt)=false:=decide_eq_false (by omega)
      have e5:decide (8192<(rd.size:Int))=false:=decide_eq_false (by omega)
      have HG1:=Lib.hid g1
      have e3:=decide_eq_true g3
      have e4:=decide_eq_true g4
      clear HG hno hyes hg g1 g2 g3 g4 g5
      go_wp2_with (go_at_call 130; refine (iw_any _ _ _ _).mono ?_; rintro e w' ⟨rfl,rfl⟩)
      go_roundg (n - (k+1))
      case rel=>exact⟨k+1,by omega,rfl,by go_num,(by rw [HX.out]),hA2,HBq⟩
      case measure=>omega
     ·obtain rfl:v=false:=hno.out (by rw [HG.out]; exact decide_eq_false hg)
      have HGN:=Lib.hid hg
      clear HG hno hyes hg HX
      go_wp2_with (go_at_call 130; refine (iw_any _ _ _ _).mono ?_; rintro e w' ⟨rfl,rfl⟩)
      all_goals first
       | (go_ret; exact⟨rfl,HBr.out⟩)
       | (exfalso; have h1:=HGN.out; have h2:=HTL.out; have h3:=HTE.out; omega)
    ·have hki:(n:Int)≤(k:Int):=by omega
     have hvt:v=true:=by rw [HV.out]; exact all_range (by rw [← HN.out]; omega) hA.out
     subst hvt
     go_wp2_with fail
     go_ret
     exact⟨rfl,HBW.out⟩)
 ·have hvf:v=false:=by rw [hv.out]; unfold rightG; rw [← HN.out,decide_eq_false hh,Bool.false_and]
  subst hvf
  clear hv
  unfold headG at hh
  have HH:=Lib.hid hh
  clear hh
  by_cases hb0:base=0
  ·have e0:(base==0)=true:=by simp [hb0]
   by_cases hb1:bt=0
   ·have e1:(bt==0)=true:=by simp [hb1]
    have HB01:=Lib.hid (And.intro hb0 hb1)
    clear hb0 hb1
    go_enter Tryz.func85,Tryz.ntmps85
    go_wp2_with (go_at_call 130; refine (iw_any _ _ _ _).mono ?_; rintro e w' ⟨rfl,rfl⟩)
    all_goals first
     | (go_ret; exact⟨rfl,HB0.out⟩)
     | (exfalso; have h1:=HH.out; have h2:=HB01.out; omega)
   ·have e1:(bt==0)=false:=by simp [hb1]
    have HB01:=Lib.hid (And.intro hb0 hb1)
    clear hb0 hb1
    go_enter Tryz.func85,Tryz.ntmps85
    go_wp2_with (go_at_call 130; refine (iw_any _ _ _ _).mono ?_; rintro e w' ⟨rfl,rfl⟩)
    all_goals first
     | (go_ret; exact⟨rfl,HB0.out⟩)
     | (exfalso; have h1:=HH.out; have h2:=HB01.out; omega)
  ·have e0:(base==0)=false:=by simp [hb0]
   by_cases hb1:bt=0
   ·have e1:(bt==0)=true:=by simp [hb1]
    have HB01:=Lib.hid (And.intro hb0 hb1)
    clear hb0 hb1
    go_enter Tryz.func85,Tryz.ntmps85
    go_wp2_with (go_at_call 130; refine (iw_any _ _ _ _).mono ?_; rintro e w' ⟨rfl,rfl⟩)
    all_goals first
     | (go_ret; exact⟨rfl,HB0.out⟩)
     | (exfalso; have h1:=HH.out; have h2:=HB01.out; omega)
   ·have e1:(bt==0)=false:=by simp [hb1]
    have HB01:=Lib.hid (And.intro hb0 hb1)
    clear hb0 hb1
    go_enter Tryz.func85,Tryz.ntmps85
    go_wp2_with (go_at_call 130; refine (iw_any _ _ _ _).mono ?_; rintro e w' ⟨rfl,rfl⟩)
    all_goals first
     | (go_ret; exact⟨rfl,HB0.out⟩)
     | (exfalso; have h1:=HH.out; have h2:=HB01.out; omega)
end Go.Proofs.YtlpgbmaoenncjaaGreatDoor

/-
  How deep a value is, and whether all within it may be; code.Right by these. Without a condition.
  The walks of hornbookref01's Many and Deep. (Written by wip/mkrw.py.)
  The walks of hornbookref01's shaped and Right. (Written by wip/mkrwb.py.)
  The walk of hornbookref01.Right: it tells what code.Right tells.
  The walk of hornbookref01.Bytes: the bytes of any value; as long as they are at most 2^47. (Written by wip/mkrbytes.py.)
-/
import Derived.Test.YtlpgbmaoenncjaaGreatDoorShelf
import Derived.Test.YtlpgbmaoenncjaaGreatDoorPvs
import Derived.Test.YtlpgbmaoenncjaaGreatDoorCvRt
namespace Go.Proofs.YtlpgbmaoenncjaaGreatDoor
open Go.RowKit
set_option linter.unusedVariables false
mutual
def V.hgt:V→Nat
 | .mk k n s l=>hgtAll l+1
def hgtAll:List V→Nat
 | []=>0
 | x :: r=>max x.hgt (hgtAll r)
end
mutual
def V.shp:V→Bool
 | .mk k n s l=>rightOne k n s l&&shpAll l
def shpAll:List V→Bool
 | []=>true
 | x :: r=>x.shp&&shpAll r
end
theorem hgtAll_snoc (l:List V) (x:V):hgtAll (l++[x])=max (hgtAll l) x.hgt:=by
 induction l with
 | nil=>simp [hgtAll]
 | cons y r ih=>simp only [List.cons_append,hgtAll,ih]; omega
theorem shpAll_snoc (l:List V) (x:V):shpAll (l++[x])=(shpAll l&&x.shp):=by
 induction l with
 | nil=>simp [shpAll]
 | cons y r ih=>simp only [List.cons_append,shpAll,ih,Bool.and_assoc]
theorem cntAll_snoc (l:List V) (x:V):cntAll (l++[x])=cntAll l+x.cnt:=by
 induction l with
 | nil=>simp [cntAll]
 | cons y r ih=>simp only [List.cons_append,cntAll,ih]; omega
theorem takeV_snoc {l:List V}{i:Nat}(h:i<l.length):l.take (i+1)=l.take i++[l[i]]:=by rw [List.take_add_one,List.getElem?_eq_getElem h]; rfl
theorem hgtAll_take (l:List V):∀ i,hgtAll (l.take i)≤hgtAll l:=by
 induction l with
 | nil=>intro i; simp [hgtAll]
 | cons x r ih =>
   intro i
   cases i with
   | zero=>simp [hgtAll]
   | succ i=>have:=ih i; simp only [List.take_succ_cons,hgtAll]; omega
theorem cntAll_take (l:List V):∀ i,cntAll (l.take i)≤cntAll l:=by
 induction l with
 | nil=>intro i; simp [cntAll]
 | cons x r ih =>
   intro i
   cases i with
   | zero=>simp [cntAll]
   | succ i=>have:=ih i; simp only [List.take_succ_cons,cntAll]; omega
theorem shpAll_at {l:List V}{i:Nat}(h:i<l.length) (hs:l[i].shp=false):shpAll l=false:=by
 induction l generalizing i with
 | nil=>simp at h
 | cons x r ih =>
   cases i with
   | zero=>simp only [List.getElem_cons_zero] at hs; simp [shpAll,hs]
   | succ i=>simp only [List.getElem_cons_succ] at hs; simp [shpAll,ih (by simpa using h) hs]
mutual
theorem rightGo_is:∀ (x:V) (deep:Nat) (st:RS),st.many+x.cnt≤4000 →
 (rightGo x deep st).many=st.many+x.cnt∧(rightGo x deep st).deepest+1=max (st.deepest+1) (deep+x.hgt)∧(rightGo x deep st).ok=(st.ok&&x.shp)
 | .mk k n s l,deep,st,hm=>by
   rw [V.cnt] at hm
   rw [rightGo,V.cnt,V.hgt,V.shp,if_neg (by omega)]
   have:=rightAll_is l (deep+1) ⟨st.many+1,max st.deepest deep,st.ok&&rightOne k n s l⟩ (by dsimp only; omega)
   dsimp only at this
   refine⟨by omega,?_,by rw [this.2.2,Bool.and_assoc]⟩
   rw [this.2.1]
   by_cases hl:l=[]
   ·subst hl; rw [if_pos rfl,hgtAll]; omega
   ·rw [if_neg hl]; omega
theorem rightAll_is:∀ (l:List V) (deep:Nat) (st:RS),st.many+cntAll l≤4000 →
 (rightAll l deep st).many=st.many+cntAll l∧(rightAll l deep st).deepest+1=max (st.deepest+1) (if l=[] then 0 else deep+hgtAll l)∧(rightAll l deep st).ok=(st.ok&&shpAll l)
 | [],deep,st,_=>by rw [rightAll,cntAll,shpAll]; exact⟨rfl,by rw [if_pos rfl]; omega,by simp⟩
 | x :: r,deep,st,hm=>by
   rw [cntAll] at hm
   rw [rightAll,cntAll,hgtAll,shpAll]
   have h1:=rightGo_is x deep st (by omega)
   have h2:=rightAll_is r deep (rightGo x deep st) (by omega)
   refine⟨by omega,?_,by rw [h2.2.2,h1.2.2,Bool.and_assoc]⟩
   rw [h2.2.1,h1.2.1,if_neg (show ¬ (x :: r=[]) by simp)]
   by_cases hr:r=[]
   ·subst hr; rw [if_pos rfl,hgtAll]; omega
   ·rw [if_neg hr]; omega
end
theorem rightL_is (x:V):rightL x=if 4000<x.cnt then 2 else if 30<x.hgt then 12 else if x.shp=true then 0 else 1:=by
 unfold rightL
 dsimp only
 by_cases h1:4000<x.cnt
 ·have h2:4000<(rightGo x 1 ⟨0,0,true⟩).many:=by
   rcases Nat.lt_or_ge 4000 (rightGo x 1 ⟨0,0,true⟩).many with h | h
   ·exact h
   ·have:=(rightGo_back x 1 ⟨0,0,true⟩ h).1
    dsimp only at this
    omega
  rw [if_pos h1,if_pos h2]
 ·obtain⟨h2,h3,h4⟩:=rightGo_is x 1 ⟨0,0,true⟩ (by dsimp only; omega)
  dsimp only at h2 h3 h4
  have h5:(rightGo x 1 ⟨0,0,true⟩).deepest=x.hgt:=by
   have:1≤x.hgt:=by cases x; rw [V.hgt]; omega
   omega
  rw [if_neg h1,h2,if_neg (by omega),h5,h4,Bool.true_and]
end Go.Proofs.YtlpgbmaoenncjaaGreatDoor
namespace Go.Proofs.YtlpgbmaoenncjaaGreatDoor
open Go.RowKit
set_option linter.unusedVariables false
set_option maxRecDepth 20000 in
set_option maxHeartbeats 1000000 in
theorem many1 (k n:Int) (s:ByteArray) (a:Option Addr) (c:Nat) (l:List V) (S:Nat→Prop) (w:World) (hS:Hid (∀ p,S p→p<w.heap.size)) (hcm:l.length≤4611686018427387904) (hc:l.length≤c) (hall:Hid (VAll w S a 0 l)) (most:Nat) (hm1:1≤most) (hm2:most≤4001)
 (IH:Hid (∀ y∈l,∀ (cs:List Value) (w:World) (mi:Int) (mo:Nat),mi=(mo:Int)→(∀ p,S p→p<w.heap.size)→V.At w S y cs→1≤mo→mo≤4001 →
   Calls Tryz.prog 131 #[.agg cs.toArray,.int .i64 mi] w (fun e w'=>e = .returned (.int .i64 ((min y.cnt mo:Nat):Int))∧Below w.heap.size w w'))) (v:Int) (hv:Hid (v=((min (V.mk k n s l).cnt most:Nat):Int))) :
 Calls Tryz.prog 131 #[.agg #[.int .i64 k,.int .i64 n,.string s,.slice a l.length c],.int .i64 (most:Int)] w (fun e w'=>e = .returned (.int .i64 v)∧Below w.heap.size w w'):=by
 have HV:Hid (v=((min (1+cntAll l) most:Nat):Int)):=Lib.hid (by rw [hv.out,V.cnt])
 clear hv
 have HN:=Lib.hid (Four.new w 70 (.int .i64 k) (.int .i64 n) (.string s) (.slice a l.length c))
 have HB:=Lib.hid ((Below.refl w.heap.size w).alloc (Nat.le_refl _) (.cells #[.int .i64 k,.int .i64 n,.string s,.slice a l.length c] 70))
 have n3:=HN.out.c3
 have hmi:(most:Int)≤4001:=by omega
 have hmi1:(1:Int)≤(most:Int):=by omega
 go_enter Tryz.func131,Tryz.ntmps131
 go_wp2_with fail
 clear n3 HN
 generalize w.alloc (.cells #[.int .i64 k,.int .i64 n,.string s,.slice a l.length c] 70)=w1 at *
 go_loopg [11,5] l.length (fun gk v u wr=>∃ (i nn:Nat),i≤l.length∧gk=l.length - i∧v = .int .i64 (i:Int)∧u = .int .i64 (nn:Int)∧Hid (nn=min (1+cntAll (l.take i)) most)∧Hid (Below w.heap.size w wr))
 case atStart=>exact⟨0,1,Nat.zero_le _,rfl,rfl,rfl,Lib.hid (by simp [cntAll]; omega),HB⟩
 case round =>
  obtain⟨i,nn,hi,rfl,rfl,rfl,hN,hW⟩:=hrel
  clear HB
  have hnn1:1≤nn∧nn≤most:=by have:=hN.out; omega
  have hni:(nn:Int)≤4001:=by omega
  by_cases hlt:i<l.length
  ·have hlti:(i:Int)<(l.length:Int):=by omega
   obtain⟨b1,o,cs,rfl,hb,hat,hcell⟩:=VAll.at 0 l hall.out i hlt
   have hih:=IH.out l[i] (List.getElem_mem hlt)
   have hts:=takeV_snoc hlt
   generalize l[i]=y at *
   have HAT0:=hat
   obtain⟨yk,yn,ys,yl⟩:=y
   simp only [V.At] at hat
   generalize hyl:yl.length=ym at *
   have HYL:=Lib.hid hyl
   clear hyl
   obtain⟨ya,yc,rfl,-,-,-⟩:=hat
   have hcell2:∀ j u,[Value.int .i64 yk,.int .i64 yn,.string ys,.slice ya ym yc][j]? = some u→wr.cell? ⟨b1,o+i*4+j,none⟩=some u:=fun j u hj=>by
    have:=hcell j u hj
    rw [Nat.zero_add] at this
    exact (World.cell?_of_block (hW.out.block b1 (hS.out b1 hb))).trans this
   have e0:=hcell2 0 _ rfl
   have e1:=hcell2 1 _ rfl
   have e2:=hcell2 2 _ rfl
   have e3:=hcell2 3 _ rfl
   rw [Nat.add_zero] at e0
   have HN3:=Lib.hid (Four.new wr 70 (.int .i64 yk) (.int .i64 yn) (.string ys) (.slice ya ym yc))
   have HW3:=Lib.hid (hW.out.alloc hW.out.size (.cells #[.int .i64 yk,.int .i64 yn,.string ys,.slice ya ym yc] 70))
   have HAT:=Lib.hid (V.At.move (w':=wr.alloc (.cells #[.int .i64 yk,.int .i64 yn,.string ys,.slice ya ym yc] 70)) (fun _ hp=>hp) (fun p hp=>HW3.out.block p (hS.out p hp)) _ _ HAT0)
   have HSZ:Hid (∀ p,S p→p<(wr.alloc (.cells #[.int .i64 yk,.int .i64 yn,.string ys,.slice ya ym yc] 70)).heap.size):=Lib.hid fun p hp=>Nat.lt_of_lt_of_le (hS.out p hp) HW3.out.size
   have m0:=HN3.out.c0
   have m1:=HN3.out.c1
   have m2:=HN3.out.c2
   have m3:=HN3.out.c3
   have HIH:=Lib.hid hih
   have HTS:=Lib.hid hts
   clear hih hts HAT0 hcell hcell2
   by_cases hge:most≤nn
   ·have hgi:(most:Int)≤(nn:Int):=by omega
    have HV2:Hid (v=(most:Int)):=Lib.hid (by rw [HV.out]; have h1:=cntAll_take l i; have h2:=hN.out; congr 1; omega)
    clear hge
    go_wp2_with fail
    go_ret
    exact⟨by rw [HV2.out]; rfl,HW3.out⟩
   ·have hgi:(nn:Int)<(most:Int):=by omega
    have hgi2:0<(most:Int) - (nn:Int):=by omega
    have HC:=Lib.hid (HIH.out _ _ ((most:Int) - (nn:Int)) (most - nn) (by omega) HSZ.out HAT.out (by omega) (by omega))
    have HN2:Hid (nn+min (V.mk yk yn ys yl).cnt (most - nn)=min (1+cntAll (l.take (i+1))) most):=Lib.hid (by rw [HTS.out,cntAll_snoc]; have:=hN.out; omega)
    have hmn:min (V.mk yk yn ys yl).cnt (most - nn)≤most - nn:=Nat.min_le_right _ _
    generalize min (V.mk yk yn ys yl).cnt (most - nn)=q at *
    have hqi:(nn:Int)+(q:Int)≤4001:=by omega
    clear hge
    go_wp2_with fail
    refine HC.out.mono ?_
    rintro e w4 ⟨rfl,hb4⟩
    have HW4:=Lib.hid (HW3.out.trans (Below.lower hb4 HW3.out.size))
    clear HC hb4 e0 e1 e2 e3 m0 m1 m2 m3
    go_wp2_with fail
    go_roundg (l.length - (i+1))
    case rel=>exact⟨i+1,nn+q,hlt,rfl,by go_num,by rw [Int.natCast_add],HN2,HW4⟩
    case measure=>omega
  ·obtain rfl:i=l.length:=by omega
   have hne:(nn:Int)≤(most:Int):=by omega
   have HV2:Hid (v=(nn:Int)):=Lib.hid (by rw [HV.out,hN.out,List.take_length])
   go_wp2_with fail
   go_ret
   exact⟨by rw [HV2.out]; rfl,hW.out⟩
theorem many_any (S:Nat→Prop):∀ (f:Nat) (x:V),x.cnt≤f→x.cnt≤4611686018427387904→∀ (cs:List Value) (w:World) (mi:Int) (mo:Nat),mi=(mo:Int)→(∀ p,S p→p<w.heap.size)→V.At w S x cs→1≤mo→mo≤4001 →
 Calls Tryz.prog 131 #[.agg cs.toArray,.int .i64 mi] w (fun e w'=>e = .returned (.int .i64 ((min x.cnt mo:Nat):Int))∧Below w.heap.size w w')
 | 0,.mk k n s l,hf,_,_,_,_,_,_,_,_,_,_=>by simp only [V.cnt] at hf; omega
 | f+1,.mk k n s l,hf,hcnt,cs,w,mi,mo,hmi,hS,hat,h1,h2=>by
   subst hmi
   simp only [V.cnt] at hf hcnt
   simp only [V.At] at hat
   obtain⟨a,c,rfl,hc,-,hall⟩:=hat
   refine many1 k n s a c l S w (Lib.hid hS) (by have:=cntAll_ge l; omega) hc (Lib.hid hall) mo h1 h2 (Lib.hid ?_) _ (Lib.hid rfl)
   intro y hy cs2 w2 mi2 mo2 h3 h4 h5 h6 h7
   exact many_any S f y (by have:=cntAll_mem hy; omega) (by have:=cntAll_mem hy; omega) cs2 w2 mi2 mo2 h3 h4 h5 h6 h7
set_option maxRecDepth 20000 in
set_option maxHeartbeats 1000000 in
theorem deep1 (k n:Int) (s:ByteArray) (a:Option Addr) (c:Nat) (l:List V) (S:Nat→Prop) (w:World) (hS:Hid (∀ p,S p→p<w.heap.size)) (hcm:l.length≤4611686018427387904) (hc:l.length≤c) (hall:Hid (VAll w S a 0 l)) (most:Nat) (hm1:1≤most) (hm2:most≤4001)
 (IH:Hid (∀ y∈l,∀ (cs:List Value) (w:World) (mi:Int) (mo:Nat),mi=(mo:Int)→(∀ p,S p→p<w.heap.size)→V.At w S y cs→1≤mo→mo≤4001 →
   Calls Tryz.prog 132 #[.agg cs.toArray,.int .i64 mi] w (fun e w'=>e = .returned (.int .i64 ((min y.hgt mo:Nat):Int))∧Below w.heap.size w w'))) (v:Int) (hv:Hid (v=((min (V.mk k n s l).hgt most:Nat):Int))) :
 Calls Tryz.prog 132 #[.agg #[.int .i64 k,.int .i64 n,.string s,.slice a l.length c],.int .i64 (most:Int)] w (fun e w'=>e = .returned (.int .i64 v)∧Below w.heap.size w w'):=by
 have HV:Hid (v=((min (hgtAll l+1) most:Nat):Int)):=Lib.hid (by rw [hv.out,V.hgt])
 clear hv
 have HN:=Lib.hid (Four.new w 70 (.int .i64 k) (.int .i64 n) (.string s) (.slice a l.length c))
 have HB:=Lib.hid ((Below.refl w.heap.size w).alloc (Nat.le_refl _) (.cells #[.int .i64 k,.int .i64 n,.string s,.slice a l.length c] 70))
 have n3:=HN.out.c3
 have hmi:(most:Int)≤4001:=by omega
 have hmi1:(1:Int)≤(most:Int):=by omega
 by_cases h1:most≤1
 ·have h1i:(most:Int)≤1:=by omega
  have HV2:Hid (v=(most:Int)):=Lib.hid (by rw [HV.out]; congr 1; omega)
  clear h1
  go_enter Tryz.func132,Tryz.ntmps132
  go_wp2_with fail
  go_ret
  exact⟨by rw [HV2.out]; rfl,HB.out⟩
 ·have h1i:1<(most:Int):=by omega
  go_enter Tryz.func132,Tryz.ntmps132
  go_wp2_with fail
  clear n3 HN
  generalize w.alloc (.cells #[.int .i64 k,.int .i64 n,.string s,.slice a l.length c] 70)=w1 at *
  go_loopg [15,5] l.length (fun gk v u wr=>∃ (i nn:Nat),i≤l.length∧gk=l.length - i∧v = .int .i64 (i:Int)∧u = .int .i64 (nn:Int)∧nn<most - 1∧Hid (nn=hgtAll (l.take i))∧Hid (Below w.heap.size w wr))
  case atStart=>exact⟨0,0,Nat.zero_le _,rfl,rfl,rfl,by omega,Lib.hid (by simp [hgtAll]),HB⟩
  case round =>
   obtain⟨i,nn,hi,rfl,rfl,rfl,hnm,hN,hW⟩:=hrel
   clear HB
   have hni:(nn:Int)≤4000:=by omega
   by_cases hlt:i<l.length
   ·have hlti:(i:Int)<(l.length:Int):=by omega
    obtain⟨b1,o,cs,rfl,hb,hat,hcell⟩:=VAll.at 0 l hall.out i hlt
    have hih:=IH.out l[i] (List.getElem_mem hlt)
    have hts:=takeV_snoc hlt
    generalize l[i]=y at *
    have HAT0:=hat
    obtain⟨yk,yn,ys,yl⟩:=y
    simp only [V.At] at hat
    generalize hyl:yl.length=ym at *
    have HYL:=Lib.hid hyl
    clear hyl
    obtain⟨ya,yc,rfl,-,-,-⟩:=hat
    have hcell2:∀ j u,[Value.int .i64 yk,.int .i64 yn,.string ys,.slice ya ym yc][j]? = some u→wr.cell? ⟨b1,o+i*4+j,none⟩=some u:=fun j u hj=>by
     have:=hcell j u hj
     rw [Nat.zero_add] at this
     exact (World.cell?_of_block (hW.out.block b1 (hS.out b1 hb))).trans this
    have e0:=hcell2 0 _ rfl
    have e1:=hcell2 1 _ rfl
    have e2:=hcell2 2 _ rfl
    have e3:=hcell2 3 _ rfl
    rw [Nat.add_zero] at e0
    have HN3:=Lib.hid (Four.new wr 70 (.int .i64 yk) (.int .i64 yn) (.string ys) (.slice ya ym yc))
    have HW3:=Lib.hid (hW.out.alloc hW.out.size (.cells #[.int .i64 yk,.int .i64 yn,.string ys,.slice ya ym yc] 70))
    have HAT:=Lib.hid (V.At.move (w':=wr.alloc (.cells #[.int .i64 yk,.int .i64 yn,.string ys,.slice ya ym yc] 70)) (fun _ hp=>hp) (fun p hp=>HW3.out.block p (hS.out p hp)) _ _ HAT0)
    have HSZ:Hid (∀ p,S p→p<(wr.alloc (.cells #[.int .i64 yk,.int .i64 yn,.string ys,.slice ya ym yc] 70)).heap.size):=Lib.hid fun p hp=>Nat.lt_of_lt_of_le (hS.out p hp) HW3.out.size
    have m0:=HN3.out.c0
    have m1:=HN3.out.c1
    have m2:=HN3.out.c2
    have m3:=HN3.out.c3
    have HIH:=Lib.hid hih
    have HTS:=Lib.hid hts
    clear hih hts HAT0 hcell hcell2
    have HC:=Lib.hid (HIH.out _ _ ((most:Int) - 1) (most - 1) (by omega) HSZ.out HAT.out (by omega) (by omega))
    have hq:min (V.mk yk yn ys yl).hgt (most - 1)≤most - 1:=Nat.min_le_right _ _
    have HQ:Hid (max nn (min (V.mk yk yn ys yl).hgt (most - 1))=min (hgtAll (l.take (i+1))) (most - 1)):=Lib.hid (by rw [HTS.out,hgtAll_snoc]; have:=hN.out; omega)
    generalize min (V.mk yk yn ys yl).hgt (most - 1)=q at *
    have hqi:(q:Int)≤4000:=by omega
    have HLE:=Lib.hid (hgtAll_take l (i+1))
    go_wp2_with fail
    refine HC.out.mono ?_
    rintro e w4 ⟨rfl,hb4⟩
    have HW4:=Lib.hid (HW3.out.trans (Below.lower hb4 HW3.out.size))
    clear HC hb4 e0 e1 e2 e3 m0 m1 m2 m3
    by_cases hgt:nn<q
    ·have hgti:(nn:Int)<(q:Int):=by omega
     by_cases hge:most - 1≤q
     ·have hgi:(most:Int) - 1≤(q:Int):=by omega
      have HV2:Hid (v=(most:Int)):=Lib.hid (by rw [HV.out]; have h1:=HLE.out; have h2:=HQ.out; congr 1; omega)
      clear hge hgt
      go_wp2_with fail
      go_ret
      exact⟨by rw [HV2.out]; rfl,HW4.out⟩
     ·have hgi:(q:Int)<(most:Int) - 1:=by omega
      have HN2:Hid (q=hgtAll (l.take (i+1))):=Lib.hid (by have:=HQ.out; omega)
      have hq2:q<most - 1:=by omega
      clear hge hgt
      go_wp2_with fail
      go_roundg (l.length - (i+1))
      case rel=>exact⟨i+1,q,hlt,rfl,by go_num,rfl,hq2,HN2,HW4⟩
      case measure=>omega
    ·have hgti:(q:Int)≤(nn:Int):=by omega
     have hgi:(nn:Int)<(most:Int) - 1:=by omega
     have HN2:Hid (nn=hgtAll (l.take (i+1))):=Lib.hid (by have:=HQ.out; omega)
     clear hgt
     go_wp2_with fail
     go_roundg (l.length - (i+1))
     case rel=>exact⟨i+1,nn,hlt,rfl,by go_num,rfl,hnm,HN2,HW4⟩
     case measure=>omega
   ·obtain rfl:i=l.length:=by omega
    have HV2:Hid (v=(nn:Int)+1):=Lib.hid (by rw [HV.out]; have:=hN.out; rw [List.take_length] at this; omega)
    go_wp2_with fail
    go_ret
    exact⟨by rw [HV2.out]; rfl,hW.out⟩
theorem deep_any (S:Nat→Prop):∀ (f:Nat) (x:V),x.cnt≤f→x.cnt≤4611686018427387904→∀ (cs:List Value) (w:World) (mi:Int) (mo:Nat),mi=(mo:Int)→(∀ p,S p→p<w.heap.size)→V.At w S x cs→1≤mo→mo≤4001 →
 Calls Tryz.prog 132 #[.agg cs.toArray,.int .i64 mi] w (fun e w'=>e = .returned (.int .i64 ((min x.hgt mo:Nat):Int))∧Below w.heap.size w w')
 | 0,.mk k n s l,hf,_,_,_,_,_,_,_,_,_,_=>by simp only [V.cnt] at hf; omega
 | f+1,.mk k n s l,hf,hcnt,cs,w,mi,mo,hmi,hS,hat,h1,h2=>by
   subst hmi
   simp only [V.cnt] at hf hcnt
   simp only [V.At] at hat
   obtain⟨a,c,rfl,hc,-,hall⟩:=hat
   refine deep1 k n s a c l S w (Lib.hid hS) (by have:=cntAll_ge l; omega) hc (Lib.hid hall) mo h1 h2 (Lib.hid ?_) _ (Lib.hid rfl)
   intro y hy cs2 w2 mi2 mo2 h3 h4 h5 h6 h7
   exact deep_any S f y (by have:=cntAll_mem hy; omega) (by have:=cntAll_mem hy; omega) cs2 w2 mi2 mo2 h3 h4 h5 h6 h7
end Go.Proofs.YtlpgbmaoenncjaaGreatDoor
namespace Go.Proofs.YtlpgbmaoenncjaaGreatDoor
open Go.RowKit
set_option linter.unusedVariables false
set_option maxRecDepth 20000 in
set_option maxHeartbeats 1000000 in
theorem shaped_small (k n:Int) (s:ByteArray) (a:Option Addr) (c:Nat) (l:List V) (w:World) (hk:k≠3) (v:Bool) (hv:Hid (v=(rightOne k n s l&&shpAll l))) :
 Calls Tryz.prog 133 #[.agg #[.int .i64 k,.int .i64 n,.string s,.slice a l.length c]] w (fun e w'=>e = .returned (.bool v)∧Below w.heap.size w w'):=by
 have HN:=Lib.hid (Four.new w 70 (.int .i64 k) (.int .i64 n) (.string s) (.slice a l.length c))
 have HB:=Lib.hid ((Below.refl w.heap.size w).alloc (Nat.le_refl _) (.cells #[.int .i64 k,.int .i64 n,.string s,.slice a l.length c] 70))
 have n0:=HN.out.c0
 have n1:=HN.out.c1
 have n2:=HN.out.c2
 have n3:=HN.out.c3
 have HL1:Hid (∀ h:l.length=0,((l.length:Int)==0)=true):=Lib.hid fun h=>by simp [h]
 have HL2:Hid (∀ h:l.length≠0,((l.length:Int)==0)=false):=Lib.hid fun h=>by simpa using h
 by_cases h1:k=1
 ·subst h1
  by_cases hs:s.size=0
  ·obtain rfl:=size0 hs
   by_cases hl:l.length=0
   ·have p1:=HL1.out hl
    have HV:Hid (v=true):=Lib.hid (by rw [hv.out]; obtain rfl:=List.eq_nil_of_length_eq_zero hl; rfl)
    clear hv hs hl
    go_enter Tryz.func133,Tryz.ntmps133
    go_wp2_with fail
    go_ret
    exact⟨by rw [HV.out]; rfl,HB.out⟩
   ·have p1:=HL2.out hl
    have HV:Hid (v=false):=Lib.hid (by rw [hv.out,show rightOne 1 n ⟨#[]⟩ l=false by simp [rightOne,hl]]; rfl)
    clear hv hs hl
    go_enter Tryz.func133,Tryz.ntmps133
    go_wp2_with fail
    go_ret
    exact⟨by rw [HV.out]; rfl,HB.out⟩
  ·have e1:=isEmpty_no hs
   have e2:=eqNil_no hs
   have HV:Hid (v=false):=Lib.hid (by rw [hv.out,show rightOne 1 n s l=false by simp [rightOne,hs]]; rfl)
   clear hv hs
   go_enter Tryz.func133,Tryz.ntmps133
   go_wp2_with fail
   go_ret
   exact⟨by rw [HV.out]; rfl,HB.out⟩
 ·by_cases h2:k=2
  ·subst h2
   clear h1
   by_cases hn:n=0
   ·subst hn
    by_cases hl:l.length=0
    ·have p1:=HL1.out hl
     have HV:Hid (v=true):=Lib.hid (by rw [hv.out]; obtain rfl:=List.eq_nil_of_length_eq_zero hl; rfl)
     clear hv hl
     go_enter Tryz.func133,Tryz.ntmps133
     go_wp2_with fail
     go_ret
     exact⟨by rw [HV.out]; rfl,HB.out⟩
    ·have p1:=HL2.out hl
     have HV:Hid (v=false):=Lib.hid (by rw [hv.out,show rightOne 2 0 s l=false by simp [rightOne,hl]]; rfl)
     clear hv hl
     go_enter Tryz.func133,Tryz.ntmps133
     go_wp2_with fail
     go_ret
     exact⟨by rw [HV.out]; rfl,HB.out⟩
   ·have p2:(n==0)=false:=by simpa using hn
    have HV:Hid (v=false):=Lib.hid (by rw [hv.out,show rightOne 2 n s l=false by simp [rightOne,hn]]; rfl)
    clear hv hn
    go_enter Tryz.func133,Tryz.ntmps133
    go_wp2_with fail
    go_ret
    exact⟨by rw [HV.out]; rfl,HB.out⟩
  ·have p1:(k==1)=false:=by simpa using h1
   have p2:(k==2)=false:=by simpa using h2
   have p3:(k==3)=false:=by simpa using hk
   have HV:Hid (v=false):=Lib.hid (by rw [hv.out,show rightOne k n s l=false by simp [rightOne,h1,h2,hk]]; rfl)
   clear hv h1 h2 hk
   go_enter Tryz.func133,Tryz.ntmps133
   go_wp2_with fail
   go_ret
   exact⟨by rw [HV.out]; rfl,HB.out⟩
set_option maxRecDepth 20000 in
set_option maxHeartbeats 1000000 in
theorem shaped_list (n:Int) (s:ByteArray) (a:Option Addr) (c:Nat) (l:List V) (S:Nat→Prop) (w:World) (hS:Hid (∀ p,S p→p<w.heap.size)) (hcm:l.length≤4611686018427387904) (hc:l.length≤c) (hall:Hid (VAll w S a 0 l))
 (IH:Hid (∀ y∈l,∀ (cs:List Value) (w:World),(∀ p,S p→p<w.heap.size)→V.At w S y cs→Calls Tryz.prog 133 #[.agg cs.toArray] w (fun e w'=>e = .returned (.bool y.shp)∧Below w.heap.size w w')))
 (v:Bool) (hv:Hid (v=(rightOne 3 n s l&&shpAll l))) :
 Calls Tryz.prog 133 #[.agg #[.int .i64 3,.int .i64 n,.string s,.slice a l.length c]] w (fun e w'=>e = .returned (.bool v)∧Below w.heap.size w w'):=by
 have HN:=Lib.hid (Four.new w 70 (.int .i64 3) (.int .i64 n) (.string s) (.slice a l.length c))
 have HB:=Lib.hid ((Below.refl w.heap.size w).alloc (Nat.le_refl _) (.cells #[.int .i64 3,.int .i64 n,.string s,.slice a l.length c] 70))
 have n0:=HN.out.c0
 have n1:=HN.out.c1
 have n2:=HN.out.c2
 have n3:=HN.out.c3
 go_enter Tryz.func133,Tryz.ntmps133
 go_wp2_with fail
 clear n0 n1 n2 n3
 generalize w.alloc (.cells #[.int .i64 3,.int .i64 n,.string s,.slice a l.length c] 70)=w1 at *
 go_loopg [34] l.length (fun gk v wr=>∃ (i:Nat),i≤l.length∧gk=l.length - i∧v = .int .i64 (i:Int)∧Hid (shpAll (l.take i)=true)∧Hid (Four wr w.heap.size 70 (.int .i64 3) (.int .i64 n) (.string s) (.slice a l.length c))∧Hid (Below w.heap.size w wr))
 case atStart=>exact⟨0,Nat.zero_le _,rfl,rfl,Lib.hid (by simp [shpAll]),HN,HB⟩
 case round =>
  obtain⟨i,hi,rfl,rfl,hP,hF,hW⟩:=hrel
  clear HN HB
  by_cases hlt:i<l.length
  ·have HFALSE:Hid (l[i].shp=false→v=false):=Lib.hid fun h=>by rw [hv.out,shpAll_at hlt h,Bool.and_false]
   have hlti:(i:Int)<(l.length:Int):=by omega
   obtain⟨b1,o,cs,rfl,hb,hat,hcell⟩:=VAll.at 0 l hall.out i hlt
   have hih:=IH.out l[i] (List.getElem_mem hlt)
   have hts:=takeV_snoc hlt
   generalize l[i]=y at *
   have HAT0:=hat
   obtain⟨yk,yn,ys,yl⟩:=y
   simp only [V.At] at hat
   generalize hyl:yl.length=ym at *
   have HYL:=Lib.hid hyl
   clear hyl
   obtain⟨ya,yc,rfl,-,-,-⟩:=hat
   have hcell2:∀ j u,[Value.int .i64 yk,.int .i64 yn,.string ys,.slice ya ym yc][j]? = some u→wr.cell? ⟨b1,o+i*4+j,none⟩=some u:=fun j u hj=>by
    have:=hcell j u hj
    rw [Nat.zero_add] at this
    exact (World.cell?_of_block (hW.out.block b1 (hS.out b1 hb))).trans this
   have e0:=hcell2 0 _ rfl
   have e1:=hcell2 1 _ rfl
   have e2:=hcell2 2 _ rfl
   have e3:=hcell2 3 _ rfl
   rw [Nat.add_zero] at e0
   have HN3:=Lib.hid (Four.new wr 70 (.int .i64 yk) (.int .i64 yn) (.string ys) (.slice ya ym yc))
   have HW3:=Lib.hid (hW.out.alloc hW.out.size (.cells #[.int .i64 yk,.int .i64 yn,.string ys,.slice ya ym yc] 70))
   have HAT:=Lib.hid (V.At.move (w':=wr.alloc (.cells #[.int .i64 yk,.int .i64 yn,.string ys,.slice ya ym yc] 70)) (fun _ hp=>hp) (fun p hp=>HW3.out.block p (hS.out p hp)) _ _ HAT0)
   have HSZ:Hid (∀ p,S p→p<(wr.alloc (.cells #[.int .i64 yk,.int .i64 yn,.string ys,.slice ya ym yc] 70)).heap.size):=Lib.hid fun p hp=>Nat.lt_of_lt_of_le (hS.out p hp) HW3.out.size
   have m0:=HN3.out.c0
   have m1:=HN3.out.c1
   have m2:=HN3.out.c2
   have m3:=HN3.out.c3
   have HIH:=Lib.hid hih
   have HTS:=Lib.hid hts
   clear hih hts HAT0 hcell hcell2
   have HC:=Lib.hid (HIH.out _ _ HSZ.out HAT.out)
   have HTK:Hid (shpAll (l.take (i+1))=(V.mk yk yn ys yl).shp):=Lib.hid (by rw [HTS.out,shpAll_snoc,hP.out,Bool.true_and])
   generalize (V.mk yk yn ys yl).shp=q at *
   go_wp2_with fail
   refine HC.out.mono ?_
   rintro e w4 ⟨rfl,hb4⟩
   have HW4:=Lib.hid (HW3.out.trans (Below.lower hb4 HW3.out.size))
   have HF4:Hid (Four w4 w.heap.size 70 (.int .i64 3) (.int .i64 n) (.string s) (.slice (some ⟨b1,o,none⟩) l.length c)):=Lib.hid ((hb4.block _ (by have:=lt_of_block hF.out; simp; omega)).trans (hF.out.alloc _))
   clear HC hb4 e0 e1 e2 e3 m0 m1 m2 m3 hF
   cases q with
   | false =>
     have HV:=Lib.hid (HFALSE.out rfl)
     clear HFALSE
     go_wp2_with fail
     go_ret
     exact⟨by rw [HV.out]; rfl,HW4.out⟩
   | true =>
     clear HFALSE
     go_wp2_with fail
     go_roundg (l.length - (i+1))
     case rel=>exact⟨i+1,hlt,rfl,by go_num,HTK,HF4,HW4⟩
     case measure=>omega
  ·obtain rfl:i=l.length:=by omega
   have hp:=hP.out
   rw [List.take_length] at hp
   have n0:=hF.out.c0
   have n1:=hF.out.c1
   have n2:=hF.out.c2
   by_cases hn:n=0
   ·subst hn
    by_cases hs:s.size=0
    ·obtain rfl:=size0 hs
     have HV:Hid (v=true):=Lib.hid (by rw [hv.out,hp]; rfl)
     clear hv hs hp
     go_wp2_with fail
     go_ret
     exact⟨by rw [HV.out]; rfl,hW.out⟩
    ·have e1:=isEmpty_no hs
     have e2:=eqNil_no hs
     have HV:Hid (v=false):=Lib.hid (by rw [hv.out,show rightOne 3 0 s l=false by simp [rightOne,hs]]; rfl)
     clear hv hs hp
     go_wp2_with fail
     go_ret
     exact⟨by rw [HV.out]; rfl,hW.out⟩
   ·have p2:(n==0)=false:=by simpa using hn
    have HV:Hid (v=false):=Lib.hid (by rw [hv.out,show rightOne 3 n s l=false by simp [rightOne,hn]]; rfl)
    clear hv hn hp
    go_wp2_with fail
    go_ret
    exact⟨by rw [HV.out]; rfl,hW.out⟩
theorem shaped_any (S:Nat→Prop):∀ (f:Nat) (x:V),x.cnt≤f→x.cnt≤4611686018427387904→∀ (cs:List Value) (w:World),(∀ p,S p→p<w.heap.size)→V.At w S x cs →
 Calls Tryz.prog 133 #[.agg cs.toArray] w (fun e w'=>e = .returned (.bool x.shp)∧Below w.heap.size w w')
 | 0,.mk k n s l,hf,_,_,_,_,_=>by simp only [V.cnt] at hf; omega
 | f+1,.mk k n s l,hf,hcnt,cs,w,hS,hat=>by
   simp only [V.cnt] at hf hcnt
   simp only [V.At] at hat
   obtain⟨a,c,rfl,hc,-,hall⟩:=hat
   by_cases hk:k=3
   ·subst hk
    refine shaped_list n s a c l S w (Lib.hid hS) (by have:=cntAll_ge l; omega) hc (Lib.hid hall) (Lib.hid ?_) _ (Lib.hid (by rw [V.shp]))
    intro y hy cs2 w2 h3 h4
    exact shaped_any S f y (by have:=cntAll_mem hy; omega) (by have:=cntAll_mem hy; omega) cs2 w2 h3 h4
   ·exact shaped_small k n s a c l w hk _ (Lib.hid (by rw [V.shp]))
end Go.Proofs.YtlpgbmaoenncjaaGreatDoor
namespace Go.Proofs.YtlpgbmaoenncjaaGreatDoor
open Go.RowKit
set_option linter.unusedVariables false
set_option maxRecDepth 20000 in
set_option maxHeartbeats 1000000 in
theorem rright_any (S:Nat→Prop) (x:V) (cs:List Value) (w:World) (hS:∀ p,S p→p<w.heap.size) (hat:V.At w S x cs) (hcnt:x.cnt≤4611686018427387904) (y:Int) (hy:Hid (y=rightL x)) :
 Calls Tryz.prog 86 #[.agg cs.toArray] w (fun e w'=>e = .returned (.int .i64 y)∧Below w.heap.size w w'):=by
 have HY:Hid (y=if 4000<x.cnt then 2 else if 30<x.hgt then 12 else if x.shp=true then 0 else 1):=Lib.hid (by rw [hy.out,rightL_is])
 have HM:Hid (∀ w1,(∀ p,S p→p<w1.heap.size)→V.At w1 S x cs→Calls Tryz.prog 131 #[.agg cs.toArray,.int .i64 4001] w1 (fun e w'=>e = .returned (.int .i64 ((min x.cnt 4001:Nat):Int))∧Below w1.heap.size w1 w')):=Lib.hid fun w1 h1 h2=>many_any S x.cnt x (Nat.le_refl _) hcnt cs w1 4001 4001 rfl h1 h2 (by decide) (by decide)
 have HD:Hid (∀ w1,(∀ p,S p→p<w1.heap.size)→V.At w1 S x cs→Calls Tryz.prog 132 #[.agg cs.toArray,.int .i64 31] w1 (fun e w'=>e = .returned (.int .i64 ((min x.hgt 31:Nat):Int))∧Below w1.heap.size w1 w')):=Lib.hid fun w1 h1 h2=>deep_any S x.cnt x (Nat.le_refl _) hcnt cs w1 31 31 rfl h1 h2 (by decide) (by decide)
 have HS:Hid (∀ w1,(∀ p,S p→p<w1.heap.size)→V.At w1 S x cs→Calls Tryz.prog 133 #[.agg cs.toArray] w1 (fun e w'=>e = .returned (.bool x.shp)∧Below w1.heap.size w1 w')):=Lib.hid fun w1 h1 h2=>shaped_any S x.cnt x (Nat.le_refl _) hcnt cs w1 h1 h2
 have HAT0:=hat
 have HSP:=Lib.hid hS
 clear hy hcnt hS
 have hc4:=Lib.hid hat.four.1
 obtain⟨k,n,s,l⟩:=x
 simp only [V.At] at hat
 obtain⟨a,c,rfl,-,-,-⟩:=hat
 generalize V.cnt (.mk k n s l)=X1 at *
 generalize V.hgt (.mk k n s l)=X2 at *
 generalize V.shp (.mk k n s l)=X3 at *
 have HN:=Lib.hid (Four.new w 70 (.int .i64 k) (.int .i64 n) (.string s) (.slice a l.length c))
 have HB:=Lib.hid ((Below.refl w.heap.size w).alloc (Nat.le_refl _) (.cells #[.int .i64 k,.int .i64 n,.string s,.slice a l.length c] 70))
 have HAT:=Lib.hid HAT0
 clear HAT0 hc4
 have hs1:w.heap.size<(w.alloc (.cells #[.int .i64 k,.int .i64 n,.string s,.slice a l.length c] 70)).heap.size:=by simp
 have hin:∀ w1,Below w.heap.size w w1→(∀ p,S p→p<w1.heap.size)∧V.At w1 S (.mk k n s l) [.int .i64 k,.int .i64 n,.string s,.slice a l.length c]:=fun w1 h1=>⟨fun p hp=>Nat.lt_of_lt_of_le (HSP.out p hp) h1.size,V.At.move (fun _ h=>h) (fun p hp=>h1.block p (HSP.out p hp)) _ _ HAT.out⟩
 have HIN:=Lib.hid hin
 have n0:=HN.out.c0
 have n1:=HN.out.c1
 have n2:=HN.out.c2
 have n3:=HN.out.c3
 have h1:=HIN.out _ HB.out
 have HC1:=Lib.hid (HM.out _ h1.1 h1.2)
 clear hin h1
 go_enter Tryz.func86,Tryz.ntmps86
 go_wp2_with fail
 refine HC1.out.mono ?_
 rintro e w2 ⟨rfl,hb2⟩
 have HN2:Hid (Four w2 w.heap.size 70 (.int .i64 k) (.int .i64 n) (.string s) (.slice a l.length c)):=Lib.hid ((hb2.block _ hs1).trans HN.out)
 have HB2:=Lib.hid (HB.out.trans (Below.lower hb2 HB.out.size))
 clear HC1 hb2 n0 n1 n2 n3 HN HB hs1
 by_cases hx1:4000<X1
 ·have hi:(4000:Int)<((min X1 4001:Nat):Int):=by omega
  have HV:Hid (y=2):=Lib.hid (by rw [HY.out,if_pos hx1])
  generalize ((min X1 4001:Nat):Int)=z at *
  clear hx1
  go_wp2_with fail
  go_ret
  exact⟨by rw [HV.out]; rfl,HB2.out⟩
 ·have hi:((min X1 4001:Nat):Int)≤4000:=by omega
  have HY2:Hid (y=if 30<X2 then 12 else if X3=true then 0 else 1):=Lib.hid (by rw [HY.out,if_neg hx1])
  generalize ((min X1 4001:Nat):Int)=z at *
  have n0:=HN2.out.c0
  have n1:=HN2.out.c1
  have n2:=HN2.out.c2
  have n3:=HN2.out.c3
  have h1:=HIN.out _ HB2.out
  have HC1:=Lib.hid (HD.out _ h1.1 h1.2)
  have hs2:=lt_of_block HN2.out
  clear h1 hx1
  go_wp2_with fail
  refine HC1.out.mono ?_
  rintro e w3 ⟨rfl,hb3⟩
  have HN3:Hid (Four w3 w.heap.size 70 (.int .i64 k) (.int .i64 n) (.string s) (.slice a l.length c)):=Lib.hid ((hb3.block _ hs2).trans HN2.out)
  have HB3:=Lib.hid (HB2.out.trans (Below.lower hb3 HB2.out.size))
  clear HC1 hb3 n0 n1 n2 n3 HN2 HB2 hs2
  by_cases hx2:30<X2
  ·have hi2:(30:Int)<((min X2 31:Nat):Int):=by omega
   have HV:Hid (y=12):=Lib.hid (by rw [HY2.out,if_pos hx2])
   generalize ((min X2 31:Nat):Int)=z2 at *
   clear hx2
   go_wp2_with fail
   go_ret
   exact⟨by rw [HV.out]; rfl,HB3.out⟩
  ·have hi2:((min X2 31:Nat):Int)≤30:=by omega
   have HY3:Hid (y=if X3=true then 0 else 1):=Lib.hid (by rw [HY2.out,if_neg hx2])
   generalize ((min X2 31:Nat):Int)=z2 at *
   have n0:=HN3.out.c0
   have n1:=HN3.out.c1
   have n2:=HN3.out.c2
   have n3:=HN3.out.c3
   have h1:=HIN.out _ HB3.out
   have HC1:=Lib.hid (HS.out _ h1.1 h1.2)
   clear h1 hx2
   go_wp2_with fail
   refine HC1.out.mono ?_
   rintro e w4 ⟨rfl,hb4⟩
   have HB4:=Lib.hid (HB3.out.trans (Below.lower hb4 HB3.out.size))
   clear HC1 hb4 n0 n1 n2 n3 HN3 HB3
   cases X3 with
   | true =>
     have HV:Hid (y=0):=Lib.hid (by rw [HY3.out,if_pos rfl])
     go_wp2_with fail
     go_ret
     exact⟨by rw [HV.out]; rfl,HB4.out⟩
   | false =>
     have HV:Hid (y=1):=Lib.hid (by rw [HY3.out,if_neg (by simp)])
     go_wp2_with fail
     go_ret
     exact⟨by rw [HV.out]; rfl,HB4.out⟩
end Go.Proofs.YtlpgbmaoenncjaaGreatDoor
namespace Go.Proofs.YtlpgbmaoenncjaaGreatDoor
open Go.RowKit
set_option linter.unusedVariables false
def rbtT (B B0:Nat) (s:ByteArray) (w1:World):Nat→Value→World→Prop
 | 0,v,w=>v = .pointer (some ⟨B0,2,none⟩)
 | 1,v,w=>v = .string s
 | 2,v,w=>v = .int .i64 (s.size:Int)
 | 3,v,w=>v = .string ⟨(Lib.itoa (s.size:Int)).toArray⟩
 | 4,v,w=>v = .string ((⟨(Lib.itoa (s.size:Int)).toArray⟩:ByteArray)++(⟨#[58]⟩:ByteArray))
 | 5,v,w=>v = .pointer (some ⟨B0,2,none⟩)
 | 6,v,w=>v = .string s
 | 7,v,w=>v = .string ((⟨(Lib.itoa (s.size:Int)).toArray⟩:ByteArray)++(⟨#[58]⟩:ByteArray)++s)
 | 8,v,w=>v = .string ((⟨(Lib.itoa (s.size:Int)).toArray⟩:ByteArray)++(⟨#[58]⟩:ByteArray)++s)
 | _,_,_=>True
def rbtD:Nat→List Nat
 | _=>[]
theorem rbt_keep (B B0:Nat) (s:ByteArray) (w1:World):∀ (j:Nat) (u:Value) (w w':World),Below w.heap.size w w'→(rbtT B B0 s w1) j u w→(rbtT B B0 s w1) j u w'
 | 0,u,w,w',hb,h=>h
 | 1,u,w,w',hb,h=>h
 | 2,u,w,w',hb,h=>h
 | 3,u,w,w',hb,h=>h
 | 4,u,w,w',hb,h=>h
 | 5,u,w,w',hb,h=>h
 | 6,u,w,w',hb,h=>h
 | 7,u,w,w',hb,h=>h
 | 8,u,w,w',hb,h=>h
 | _+9,u,w,w',hb,h=>trivial
set_option maxHeartbeats 4000000 in
theorem rbt_steps (B B0:Nat) (s:ByteArray) (w1:World) (hcell:w1.cell? ⟨B0,2,none⟩=some (.string s)) (h0:B0<w1.heap.size) (htab:Tab B w1) (hB:B≤w1.heap.size) (hil:(Lib.itoa (s.size:Int)).length+(s.size+1)≤140737488355328) {a:Act}(hs:a.tmps.size=44) (b1:a.eval (.tmp 1) = .pointer (some ⟨B0,0,none⟩)):∀ i o,(regOf Tryz.f87 4)[i]? = some o→StepOk Tryz.prog (regOf Tryz.f87 4) a (fun w=>Below w1.heap.size w1 w) (rbtT B B0 s w1) rbtD i o:=by
 have hz:∀ t,Nat.blt t 44=true→Nat.blt t a.tmps.size=true:=fun t h=>by rw [hs]; exact h
 have hsz:(regOf Tryz.f87 4).size=9:=by kernel_rfl
 refine of_index 9 hsz ?_
 intro i hii o ho
 match i,hii with
 | 0,_ =>
   have ho1:=opIs ho (p:=.fieldAddr 70 (.tmp 1) 2) (by kernel_rfl)
   have hg:=guardIs ho (p:=none) (by kernel_rfl)
   intro e A w hA hC hp K hk
   have x1:A.eval (.tmp 1) = .pointer (some ⟨B0,0,none⟩):=filled_base hA (by kernel_rfl) b1
   have hw:Region.wanted o (yielded (regOf Tryz.f87 4) A.tmps)=true:=wanted_free hg
   refine step_pure (v:=.pointer (some ⟨B0,2,none⟩)) hk hC hw ?_ rfl
   unfold execOp
   simp only [ho1]
   generalize A.eval=ρ at x1 ⊢
   simp [go_sem,x1]
 | 1,_ =>
   have ho1:=opIs ho (p:=.load 9 (.tmp 17)) (by kernel_rfl)
   have hg:=guardIs ho (p:=none) (by kernel_rfl)
   intro e A w hA hC hp K hk
   have x17:A.eval (.tmp 17) = .pointer (some ⟨B0,2,none⟩):=op_tmp hA hp 17 0 (by kernel_rfl) (by kernel_rfl) (by kernel_rfl) (hz _ rfl)
   have hw:Region.wanted o (yielded (regOf Tryz.f87 4) A.tmps)=true:=wanted_free hg
   refine step_pure (v:=.string s) hk hC hw ?_ rfl
   unfold execOp
   simp only [ho1]
   have e1:w.cell? ⟨B0,2,none⟩=some (.string s):=(World.cell?_of_block (hC.block _ h0)).trans hcell
   generalize A.eval=ρ at x17 ⊢
   simp [go_sem,x17,e1]
 | 2,_ =>
   have ho1:=opIs ho (p:=.call { callee:=(.builtin .len),args:=#[(.tmp 18)],argTypes:=#[9] }) (by kernel_rfl)
   have hg:=guardIs ho (p:=none) (by kernel_rfl)
   intro e A w hA hC hp K hk
   have x18:A.eval (.tmp 18) = .string s:=op_tmp hA hp 18 1 (by kernel_rfl) (by kernel_rfl) (by kernel_rfl) (hz _ rfl)
   have hw:Region.wanted o (yielded (regOf Tryz.f87 4) A.tmps)=true:=wanted_free hg
   refine step_pure (v:=.int .i64 (s.size:Int)) hk hC hw ?_ rfl
   unfold execOp
   simp only [ho1]
   generalize A.eval=ρ at x18 ⊢
   simp [go_sem,x18]
 | 3,_ =>
   have ho1:=opIs ho (p:=.call { callee:=(.value (.func 79)),args:=#[(.tmp 19)],argTypes:=#[3] }) (by kernel_rfl)
   have hg:=guardIs ho (p:=none) (by kernel_rfl)
   intro e A w hA hC hp K hk
   have x19:A.eval (.tmp 19) = .int .i64 (s.size:Int):=op_tmp hA hp 19 2 (by kernel_rfl) (by kernel_rfl) (by kernel_rfl) (hz _ rfl)
   have hw:Region.wanted o (yielded (regOf Tryz.f87 4) A.tmps)=true:=wanted_free hg
   refine step_call (f:=79) (args:=#[.int .i64 (s.size:Int)]) hk hw ?_ ?_
   ·unfold execOp
    simp only [ho1]
    have xf:∀ f,A.eval (.func f) = .func (.func f) #[] #[]:=fun _=>rfl
    generalize A.eval=ρ at x19 xf ⊢
    simp [go_sem,xf,x19]
   ·refine (itoa_any _ (by omega) (by omega) B _ (htab.on (Below.lower hC hB))).mono ?_
    rintro en w' ⟨rfl,hb'⟩
    exact⟨_,rfl,rfl,hC.trans (Below.lower hb' hC.size),fun j u _ _ _ _ h=>rbt_keep B B0 s w1 j u w _ hb' h⟩
 | 4,_ =>
   have ho1:=opIs ho (p:=.binOp .add 9 (.tmp 20) (.const (.string ⟨#[58]⟩)) 9) (by kernel_rfl)
   have hg:=guardIs ho (p:=none) (by kernel_rfl)
   intro e A w hA hC hp K hk
   have x20:A.eval (.tmp 20) = .string ⟨(Lib.itoa (s.size:Int)).toArray⟩:=op_tmp hA hp 20 3 (by kernel_rfl) (by kernel_rfl) (by kernel_rfl) (hz _ rfl)
   have hw:Region.wanted o (yielded (regOf Tryz.f87 4) A.tmps)=true:=wanted_free hg
   refine step_pure (v:=.string ((⟨(Lib.itoa (s.size:Int)).toArray⟩:ByteArray)++(⟨#[58]⟩:ByteArray))) hk hC hw ?_ rfl
   unfold execOp
   simp only [ho1]
   have xc:∀ v,A.eval (.const v)=v:=fun _=>rfl
   have e1:(Lib.itoa (s.size:Int)).length≤9223372036854775806:=by omega
   generalize A.eval=ρ at x20 xc ⊢
   simp [go_sem,x20,xc,e1]
 | 5,_ =>
   have ho1:=opIs ho (p:=.fieldAddr 70 (.tmp 1) 2) (by kernel_rfl)
   have hg:=guardIs ho (p:=none) (by kernel_rfl)
   intro e A w hA hC hp K hk
   have x1:A.eval (.tmp 1) = .pointer (some ⟨B0,0,none⟩):=filled_base hA (by kernel_rfl) b1
   have hw:Region.wanted o (yielded (regOf Tryz.f87 4) A.tmps)=true:=wanted_free hg
   refine step_pure (v:=.pointer (some ⟨B0,2,none⟩)) hk hC hw ?_ rfl
   unfold execOp
   simp only [ho1]
   generalize A.eval=ρ at x1 ⊢
   simp [go_sem,x1]
 | 6,_ =>
   have ho1:=opIs ho (p:=.load 9 (.tmp 22)) (by kernel_rfl)
   have hg:=guardIs ho (p:=none) (by kernel_rfl)
   intro e A w hA hC hp K hk
   have x22:A.eval (.tmp 22) = .pointer (some ⟨B0,2,none⟩):=op_tmp hA hp 22 5 (by kernel_rfl) (by kernel_rfl) (by kernel_rfl) (hz _ rfl)
   have hw:Region.wanted o (yielded (regOf Tryz.f87 4) A.tmps)=true:=wanted_free hg
   refine step_pure (v:=.string s) hk hC hw ?_ rfl
   unfold execOp
   simp only [ho1]
   have e1:w.cell? ⟨B0,2,none⟩=some (.string s):=(World.cell?_of_block (hC.block _ h0)).trans hcell
   generalize A.eval=ρ at x22 ⊢
   simp [go_sem,x22,e1]
 | 7,_ =>
   have ho1:=opIs ho (p:=.binOp .add 9 (.tmp 21) (.tmp 23) 9) (by kernel_rfl)
   have hg:=guardIs ho (p:=none) (by kernel_rfl)
   intro e A w hA hC hp K hk
   have x21:A.eval (.tmp 21) = .string ((⟨(Lib.itoa (s.size:Int)).toArray⟩:ByteArray)++(⟨#[58]⟩:ByteArray)):=op_tmp hA hp 21 4 (by kernel_rfl) (by kernel_rfl) (by kernel_rfl) (hz _ rfl)
   have x23:A.eval (.tmp 23) = .string s:=op_tmp hA hp 23 6 (by kernel_rfl) (by kernel_rfl) (by kernel_rfl) (hz _ rfl)
   have hw:Region.wanted o (yielded (regOf Tryz.f87 4) A.tmps)=true:=wanted_free hg
   refine step_pure (v:=.string ((⟨(Lib.itoa (s.size:Int)).toArray⟩:ByteArray)++(⟨#[58]⟩:ByteArray)++s)) hk hC hw ?_ rfl
   unfold execOp
   simp only [ho1]
   have e1:(Lib.itoa (s.size:Int)).length+1+s.size≤9223372036854775807:=by omega
   generalize A.eval=ρ at x21 x23 ⊢
   simp [go_sem,x21,x23,e1]
 | 8,_ =>
   have ho1:=opIs ho (p:=.assign (.tmp 24)) (by kernel_rfl)
   have hg:=guardIs ho (p:=none) (by kernel_rfl)
   intro e A w hA hC hp K hk
   have x24:A.eval (.tmp 24) = .string ((⟨(Lib.itoa (s.size:Int)).toArray⟩:ByteArray)++(⟨#[58]⟩:ByteArray)++s):=op_tmp hA hp 24 7 (by kernel_rfl) (by kernel_rfl) (by kernel_rfl) (hz _ rfl)
   have hw:Region.wanted o (yielded (regOf Tryz.f87 4) A.tmps)=true:=wanted_free hg
   exact step_pure hk hC hw (run_assign ho1 x24 w) rfl
 | _+9,h=>exact absurd h (by omega)
set_option maxRecDepth 20000 in
set_option maxHeartbeats 1000000 in
theorem rbytes_num (n:Int) (s:ByteArray) (a:Option Addr) (c:Nat) (l:List V) (w:World) (htab:Tab w.heap.size w) (h0:-9223372036854775808≤n) (h1:n≤9223372036854775807) :
 Calls Tryz.prog 87 #[.agg #[.int .i64 1,.int .i64 n,.string s,.slice a l.length c]] w (fun e w'=>e = .returned (.string ⟨(105 :: (Lib.itoa n++[101])).toArray⟩)∧Below w.heap.size w w'):=by
 have HN:=Lib.hid (Four.new w 70 (.int .i64 1) (.int .i64 n) (.string s) (.slice a l.length c))
 have HB:=Lib.hid ((Below.refl w.heap.size w).alloc (Nat.le_refl _) (.cells #[.int .i64 1,.int .i64 n,.string s,.slice a l.length c] 70))
 have HT:=Lib.hid (htab.on (Below.lower HB.out (Nat.le_refl _)))
 have n0:=HN.out.c0
 have n1:=HN.out.c1
 have hit:=itoa_len h0 h1
 clear htab
 go_enter Tryz.func87,Tryz.ntmps87
 go_wp2_with fail
 refine (fmt_any n h0 h1 w.heap.size _ HT.out).mono ?_
 rintro e w2 ⟨rfl,hb2⟩
 have HB2:=Lib.hid (HB.out.trans (Below.lower hb2 HB.out.size))
 clear hb2 n0 n1 HN HB HT
 go_wp2_with fail
 go_ret
 refine⟨?_,HB2.out⟩
 refine congrArg (fun z=>Ending.returned (Value.string z)) ?_
 apply ByteArray.ext
 simp
set_option maxRecDepth 20000 in
set_option maxHeartbeats 1000000 in
theorem rbytes_text (n:Int) (s:ByteArray) (a:Option Addr) (c:Nat) (l:List V) (w:World) (htab:Tab w.heap.size w) (hlen:(Lib.itoa (s.size:Int)).length+(s.size+1)≤140737488355328) :
 Calls Tryz.prog 87 #[.agg #[.int .i64 2,.int .i64 n,.string s,.slice a l.length c]] w (fun e w'=>e = .returned (.string ⟨(Lib.itoa (s.size:Int)++58 :: s.data.toList).toArray⟩)∧Below w.heap.size w w'):=by
 have HN:=Lib.hid (Four.new w 70 (.int .i64 2) (.int .i64 n) (.string s) (.slice a l.length c))
 have HB:=Lib.hid ((Below.refl w.heap.size w).alloc (Nat.le_refl _) (.cells #[.int .i64 2,.int .i64 n,.string s,.slice a l.length c] 70))
 have HT:=Lib.hid (htab.on (Below.lower HB.out (Nat.le_refl _)))
 have n0:=HN.out.c0
 have n2:=Lib.hid HN.out.c2
 have hlt:w.heap.size<(w.alloc (.cells #[.int .i64 2,.int .i64 n,.string s,.slice a l.length c] 70)).heap.size:=by simp
 clear htab
 go_enter Tryz.func87,Tryz.ntmps87
 go_wp2_with fail
 generalize w.alloc (.cells #[.int .i64 2,.int .i64 n,.string s,.slice a l.length c] 70)=w1 at *
 clear n0
 refine wp_region_set (regOf Tryz.f87 4) [some 17,some 18,some 19,some 20,some 21,some 22,some 23,some 24,some 2] (rbtT w.heap.size w.heap.size s w1) (fun w'=>Below w1.heap.size w1 w') rbtD (by kernel_rfl) (by kernel_rfl) (by kernel_rfl) (by kernel_rfl) (by kernel_rfl) ((Below.refl _ _).drew)
  (rbt_steps w.heap.size w.heap.size s w1 n2.out hlt HT.out (by omega) hlen (by kernel_rfl) (by kernel_rfl)) ?_
 intro vs w2 hn hCw2 hT
 replace hn:vs.length=9:=hn
 obtain⟨v0,vs1,rfl,hn1⟩:=len_cons hn
 obtain⟨v1,vs2,rfl,hn2⟩:=len_cons hn1
 obtain⟨v2,vs3,rfl,hn3⟩:=len_cons hn2
 obtain⟨v3,vs4,rfl,hn4⟩:=len_cons hn3
 obtain⟨v4,vs5,rfl,hn5⟩:=len_cons hn4
 obtain⟨v5,vs6,rfl,hn6⟩:=len_cons hn5
 obtain⟨v6,vs7,rfl,hn7⟩:=len_cons hn6
 obtain⟨v7,vs8,rfl,hn8⟩:=len_cons hn7
 obtain⟨v8,vs9,rfl,hn9⟩:=len_cons hn8
 obtain rfl:=List.eq_nil_of_length_eq_zero hn9
 clear hn hn1 hn2 hn3 hn4 hn5 hn6 hn7 hn8 hn9
 obtain rfl:v0 = .pointer (some ⟨w.heap.size,2,none⟩):=hT 0 v0 rfl (by kernel_rfl)
 obtain rfl:v1 = .string s:=hT 1 v1 rfl (by kernel_rfl)
 obtain rfl:v2 = .int .i64 (s.size:Int):=hT 2 v2 rfl (by kernel_rfl)
 obtain rfl:v3 = .string ⟨(Lib.itoa (s.size:Int)).toArray⟩:=hT 3 v3 rfl (by kernel_rfl)
 obtain rfl:v4 = .string ((⟨(Lib.itoa (s.size:Int)).toArray⟩:ByteArray)++(⟨#[58]⟩:ByteArray)):=hT 4 v4 rfl (by kernel_rfl)
 obtain rfl:v5 = .pointer (some ⟨w.heap.size,2,none⟩):=hT 5 v5 rfl (by kernel_rfl)
 obtain rfl:v6 = .string s:=hT 6 v6 rfl (by kernel_rfl)
 obtain rfl:v7 = .string ((⟨(Lib.itoa (s.size:Int)).toArray⟩:ByteArray)++(⟨#[58]⟩:ByteArray)++s):=hT 7 v7 rfl (by kernel_rfl)
 obtain rfl:v8 = .string ((⟨(Lib.itoa (s.size:Int)).toArray⟩:ByteArray)++(⟨#[58]⟩:ByteArray)++s):=hT 8 v8 rfl (by kernel_rfl)
 clear hT
 simp only [puts,Act.put,List.setIfInBounds_toArray,List.set_cons_succ,List.set_cons_zero]
 have HB2:=Lib.hid (HB.out.trans (Below.lower hCw2 HB.out.size))
 clear hCw2
 go_wp2_with fail
 go_ret
 refine⟨?_,HB2.out⟩
 refine congrArg (fun z=>Ending.returned (Value.string z)) ?_
 apply ByteArray.ext
 simp
end Go.Proofs.YtlpgbmaoenncjaaGreatDoor

/-
  The walks of wal.whole, wal.numbers and of the reference's small, smalls: numbers read out of a list value; lists of at most 4000. (Written by wip/mkwg.py.)
  The walks of wal.readRecords and of the reference's getRecs: records read out of a list value; lists of at most 4000. (Written by wip/mkwr.py.)
  The drawn regions of wal.Get and of the reference's Get of states; without a condition. (Written by wip/mkwh.py.)
  The walk of wal.Get: any text is read as just that state, or refused. (Written by wip/mkwi.py.)
-/
import Derived.Test.YtlpgbmaoenncjaaGreatDoorWkA
import Derived.Test.YtlpgbmaoenncjaaGreatDoorNgAll
import Derived.Test.YtlpgbmaoenncjaaGreatDoorWvAll
import Derived.Test.YtlpgbmaoenncjaaGreatDoorCvAll
namespace Go.Proofs.YtlpgbmaoenncjaaGreatDoor
open Go.RowKit
set_option linter.unusedVariables false
set_option maxRecDepth 100000 in
set_option maxHeartbeats 1000000 in
theorem wwhole_any (k n:Int) (s:ByteArray) (a:Option Addr) (l c:Nat) (w:World) (v:Int) (hv:Hid (v=cl n)) (b:Bool) (hb:Hid (b=decide (k=1))) :
 Calls Tryz.prog 115 #[.agg #[.int .i64 k,.int .i64 n,.string s,.slice a l c]] w (fun e w'=>e = .returned (.tuple #[.int .i64 v,.bool b])∧Below w.heap.size w w'):=by
 have HB:=Lib.hid ((Below.refl w.heap.size w).alloc (Nat.le_refl _) (.cells #[.int .i64 k,.int .i64 n,.string s,.slice a l c] 70))
 have HF:=Lib.hid (Four.new w 70 (.int .i64 k) (.int .i64 n) (.string s) (.slice a l c))
 have n0:=HF.out.c0
 have n1:=HF.out.c1
 go_enter Tryz.func115,Tryz.ntmps115
 go_wp2_with fail
 go_region
 go_wp2_with fail
 have e1:max (min n 1073741825) (-1)=v:=hv.out.symm
 have e2:(k==1)=b:=by rw [hb.out]; by_cases h:k=1 <;> simp [h]
 rw [e1,e2]
 go_ret2
 exact⟨rfl,HB.out.drew⟩
def NumsP (w:World) (b:Bool) (xs:List Int) (e:Ending) (w':World):Prop :=
 Below w.heap.size w w'∧((b=false∧∃ a n c,e = .returned (.tuple #[.slice a n c,.bool false]))∨(b=true∧∃ a c,e = .returned (.tuple #[.slice a xs.length c,.bool true])∧w'.ownsRow w.heap.size 3 1 (.slice a xs.length c) xs.length (i64s xs)))
set_option maxRecDepth 100000 in
set_option maxHeartbeats 2000000 in
theorem wnums_any (k n:Int) (s:ByteArray) (a:Option Addr) (l:List V) (c m:Nat) (w:World) (S:Nat→Prop) (hall:VAll w S a 0 l) (hc:l.length≤c) (h0:a=none→c=0) (hm:m≤4000) (b:Bool) (hb:Hid (b=(decide (k=3∧m≤l.length)&&(l.take m).all isNum))) :
 Calls Tryz.prog 68 #[.agg #[.int .i64 k,.int .i64 n,.string s,.slice a l.length c],.int .i64 (m:Int)] w (NumsP w b ((l.take m).map (fun x=>cl x.n))):=by
 have HB0:=Lib.hid ((Below.refl w.heap.size w).alloc (Nat.le_refl _) (.cells #[.int .i64 k,.int .i64 n,.string s,.slice a l.length c] 70))
 have HF0:=Lib.hid (Four.new w 70 (.int .i64 k) (.int .i64 n) (.string s) (.slice a l.length c))
 have v0:=HF0.out.c0
 have v3:=HF0.out.c3
 have HALL:=Lib.hid hall
 clear hall
 obtain⟨N,hN⟩:∃ N,N=l.length:=⟨_,rfl⟩
 have HN:=Lib.hid hN
 rw [← hN] at HB0 HF0 v0 v3 hc hb ⊢
 clear hN
 by_cases hk:k=3
 ·subst hk
  by_cases hml:m≤N
  ·have hmi:(m:Int)≤(N:Int):=by omega
   have HV:Hid (b=(l.take m).all isNum):=Lib.hid (by rw [hb.out,decide_eq_true ⟨rfl,hml⟩,Bool.true_and])
   have HML:Hid ((l.take m).length=m):=Lib.hid (by rw [List.length_take]; have:=HN.out; omega)
   obtain⟨i0,hi0,hz0,hz1,hz2⟩:=infoI
   have HI0:=Lib.hid hi0
   have HZZ:=Lib.hid (And.intro hz0 (And.intro hz1 hz2))
   clear hi0 hz0 hz1 hz2 hb
   have hmc:(m:Int)≤(c:Int):=by omega
   by_cases hz:N=0
   ·subst hz
    obtain rfl:m=0:=by omega
    obtain rfl:b=true:=by rw [HV.out,List.take_zero]; rfl
    go_enter Tryz.func68,Tryz.ntmps68
    cases a with
    | none =>
      obtain rfl:=h0 rfl
      go_wp2_with fail
      go_loopg [6,26] 0 (fun gk vo v wr=>gk=0∧v = .int .i64 0∧vo = .slice none 0 0∧Hid (Below w.heap.size w wr))
      case atStart=>exact⟨rfl,rfl,rfl,HB0⟩
      case round =>
       obtain⟨rfl,rfl,rfl,hB⟩:=hrel
       go_wp2_with fail
       go_ret2
       exact⟨hB.out,.inr ⟨rfl,none,0,rfl,World.ownsRow_nil _ _ _ _⟩⟩
    | some ad =>
      go_wp2_with fail
      go_loopg [6,26] 0 (fun gk vo v wr=>gk=0∧v = .int .i64 0∧vo = .slice none 0 0∧Hid (Below w.heap.size w wr))
      case atStart=>exact⟨rfl,rfl,rfl,HB0⟩
      case round =>
       obtain⟨rfl,rfl,rfl,hB⟩:=hrel
       go_wp2_with fail
       go_ret2
       exact⟨hB.out,.inr ⟨rfl,none,0,rfl,World.ownsRow_nil _ _ _ _⟩⟩
   ·obtain⟨b0,o0,-,rfl,-⟩:=HALL.out.at 0 l 0 (by have:=HN.out; omega)
    obtain rfl:N=l.length:=HN.out
    clear hz
    go_enter Tryz.func68,Tryz.ntmps68
    go_wp2_with fail
    clear v0 v3
    go_loopg [6,26] m (fun gk vo v wr=>∃ (j:Nat) (va:Option Addr) (vc:Nat),j≤m∧gk=m - j∧v = .int .i64 (j:Int)∧vo = .slice va j vc∧Hid (∀ y∈l.take j,isNum y=true)∧Hid (wr.ownsRow w.heap.size 3 1 (.slice va j vc) j (i64s ((l.take j).map (fun x=>cl x.n))))∧Hid (Below w.heap.size w wr))
    case atStart=>exact⟨0,none,0,Nat.zero_le _,rfl,rfl,rfl,Lib.hid (fun y hy=>by simp at hy),Lib.hid (World.ownsRow_nil _ _ _ _),HB0⟩
    case round =>
     obtain⟨j,va,vc,hj,rfl,rfl,rfl,HG,hO,hB⟩:=hrel
     by_cases hjn:j<m
     ·have hji:(j:Int)<(m:Int):=by omega
      have HJN:=Lib.hid hjn
      have hjl:j<l.length:=by omega
      obtain⟨b9,o9,cs9,hae,hSb,hat9,hc9⟩:=HALL.out.at 0 l j hjl
      rw [Nat.zero_add] at hc9
      obtain⟨rfl,rfl⟩:b0=b9∧o0=o9:=by have:=Option.some.inj hae; exact⟨congrArg Addr.block this,congrArg Addr.off this⟩
      have HLT:Hid (∀ n,(fun x=>cl x.n) l[j]=n→i64s ((l.take j).map (fun x=>cl x.n))++[.int .i64 n]=i64s ((l.take (j+1)).map (fun x=>cl x.n))):=Lib.hid (fun n hn=>by rw [← hn,List.take_add_one,List.getElem?_eq_getElem hjl,List.map_append]; exact (i64s_snoc _ _).symm)
      have HG2:Hid (isNum l[j]=true→∀ y∈l.take (j+1),isNum y=true):=Lib.hid (fun h y hy=>by
       rw [List.take_add_one,List.getElem?_eq_getElem hjl,List.mem_append] at hy
       rcases hy with hy | hy
       ·exact HG.out y hy
       ·rw [Option.toList_some,List.mem_singleton] at hy; rw [hy]; exact h)
      have HFS:Hid (isNum l[j]=false→b=false):=Lib.hid (fun h=>(by rw [HV.out]; rw [List.all_eq_false]; exact⟨_,List.mem_take_iff_getElem.2 ⟨j,by omega,rfl⟩,by rw [h]; decide⟩))
      generalize l[j]=x9 at *
      obtain⟨xk,xn,xs,xl⟩:=x9
      simp only [V.At] at hat9
      obtain⟨xa,xc,rfl,-,-,-⟩:=hat9
      have y0:=cell_keep hB.out (hc9 0 _ rfl)
      have y1:=cell_keep hB.out (hc9 1 _ rfl)
      have y2:=cell_keep hB.out (hc9 2 _ rfl)
      have y3:=cell_keep hB.out (hc9 3 _ rfl)
      simp only [Nat.add_zero] at y0
      clear hc9 hae
      have hbq:Below wr.heap.size wr (wr.alloc (.cells #[.int .i64 xk,.int .i64 xn,.string xs,.slice xa xl.length xc] 70)):=(Below.refl _ wr).alloc (Nat.le_refl _) _
      have HOq:=Lib.hid (own_under hO.out hbq)
      have HBq:=Lib.hid (hB.out.trans (Below.lower hbq hB.out.size))
      have HXq:Hid (Blk (wr.alloc (.cells #[.int .i64 xk,.int .i64 xn,.string xs,.slice xa xl.length xc] 70)) wr.heap.size 70 [.int .i64 xk,.int .i64 xn,.string xs,.slice xa xl.length xc]):=Lib.hid (heap_alloc_new wr _)
      clear hbq hO hB HG
      go_upto_region 7 with fail
      clear y0 y1 y2 y3
      generalize (wr.alloc (.cells #[.int .i64 xk,.int .i64 xn,.string xs,.slice xa xl.length xc] 70))=wq at *
      have x0:=HXq.out.cell (j:=0) rfl
      have x1:=HXq.out.cell (j:=1) rfl
      have x2:=HXq.out.cell (j:=2) rfl
      have x3:=HXq.out.cell (j:=3) rfl
      go_wp2_with fail
      refine (wwhole_any xk xn xs xa xl.length xc wq (cl xn) (Lib.hid rfl) (decide (xk=1)) (Lib.hid rfl)).mono ?_
      rintro e wz ⟨rfl,hbz⟩
      have HOz:=Lib.hid (own_under HOq.out hbz)
      have HBz:=Lib.hid (below_then HBq.out hbz HBq.out.size)
      clear x0 x1 x2 x3 hbz HOq HBq HXq
      dsimp only
      cases hgood:isNum (.mk xk xn xs xl) with
      | true =>
        have HG3:=Lib.hid (HG2.out hgood)
        have hk1:xk=1:=by unfold isNum at hgood; exact of_decide_eq_true hgood
        obtain⟨rn,hrn⟩:∃ rn,rn=cl xn:=⟨_,rfl⟩
        have HRN:Hid (cl (V.mk xk xn xs xl).n=rn):=Lib.hid (by rw [hrn]; rfl)
        have hd1:decide (xk=1)=true:=decide_eq_true hk1
        rw [hd1,← hrn]
        clear hrn hk1 hd1
        have hown:=HOz.out
        have hi0:=HI0.out
        obtain⟨hz0,hz1,hz2⟩:=HZZ.out
        have hsz:=HBz.out.size
        clear HG2 HFS hgood
        go_wp2_with (at_builtin; refine wpList_app1 wz rfl _ _ 23 rfl w.heap.size 3 i0 (.int .i64 0) 8 Tryz.underlying23 hi0 hz0 hz1 hz2 rfl _ _ _ hown rfl (.int .i64 rn) 3 rfl rfl ?c3 ?c4 ?c5 ?_)
        case c3=>unfold maxLen; omega
        case c4=>omega
        case c5=>omega
        intro v' w8 hown' hgrow hblk
        obtain⟨a3,c3,rfl⟩:=own_sliceN hown'
        have HB8:=Lib.hid (HBz.out.grown hgrow HBz.out.size (fun q e=>by have:=(hown.lt q e).1; omega))
        have HO8:=Lib.hid (show w8.ownsRow w.heap.size 3 1 (.slice a3 (j+1) c3) (j+1) (i64s ((l.take (j+1)).map (fun x=>cl x.n))) from by rw [← HLT.out rn HRN.out,List.map_take]; exact hown')
        clear hown hi0 hz0 hz1 hz2 hown' hgrow hblk hsz HOz HBz
        go_wp2_with fail
        have hjn9:=HJN.out
        go_roundg (m - (j+1))
        case rel=>exact⟨j+1,a3,c3,hjn9,rfl,by go_num,rfl,HG3,HO8,HB8⟩
        case measure=>omega
      | false =>
        have HZ9:=Lib.hid (HFS.out hgood)
        have hk1:xk≠1:=by unfold isNum at hgood; exact of_decide_eq_false hgood
        have hd1:decide (xk=1)=false:=decide_eq_false hk1
        rw [hd1]
        clear hk1 hd1
        clear HG2 HFS hgood HOz
        go_wp2_with fail
        go_ret2
        exact⟨HBz.out,.inl ⟨HZ9.out,_,_,_,rfl⟩⟩
     ·obtain rfl:j=m:=by omega
      have HG9:=HG.out
      have hbt:b=true:=by rw [HV.out]; exact List.all_eq_true.2 HG9
      subst hbt
      have hML:=HML.out
      go_wp2_with fail
      go_ret2
      refine⟨hB.out,.inr ⟨rfl,va,vc,?_,?_⟩⟩
      ·rw [List.length_map,hML]; rfl
      ·rw [List.length_map,hML]; exact hO.out
  ·have hml2:(N:Int)<(m:Int):=by omega
   obtain rfl:b=false:=by rw [hb.out,decide_eq_false (fun h=>hml h.2),Bool.false_and]
   go_enter Tryz.func68,Tryz.ntmps68
   go_wp2_with fail
   go_ret2
   exact⟨HB0.out,.inl ⟨rfl,_,_,_,rfl⟩⟩
 ·have hk2:(k != 3)=true:=by simpa using hk
  obtain rfl:b=false:=by rw [hb.out,decide_eq_false (fun h=>hk h.1),Bool.false_and]
  go_enter Tryz.func68,Tryz.ntmps68
  go_wp2_with fail
  go_ret2
  exact⟨HB0.out,.inl ⟨rfl,_,_,_,rfl⟩⟩
end Go.Proofs.YtlpgbmaoenncjaaGreatDoor

namespace Go.Proofs.YtlpgbmaoenncjaaGreatDoor
open Go.RowKit
set_option linter.unusedVariables false
def RecsP (w:World) (b:Bool) (rs:List Rc) (e:Ending) (w':World):Prop :=
 Below w.heap.size w w'∧((b=false∧∃ a n c,e = .returned (.tuple #[.slice a n c,.bool false]))∨(b=true∧∃ a c,e = .returned (.tuple #[.slice a rs.length c,.bool true])∧w'.ownsRow w.heap.size 67 3 (.slice a rs.length c) rs.length (rcE.cells rs)))
def recAllB (x:V):Bool:=decide (recAll x)
theorem own_base {w:World}{base b0 n size:Nat}{e:TypeId}{v:Value}{xs:List Value}(h:w.ownsRow base e size v n xs) (hb:b0≤base):w.ownsRow b0 e size v n xs :=
 ⟨h.1,h.2.imp id (fun ⟨g,cap,cur,e1,h1,r⟩=>⟨g,cap,cur,e1,Nat.le_trans hb h1,r⟩)⟩
theorem own_two {w:World}{base:Nat}{a:Option Addr}{c:Nat}{x y:Int}(h:w.ownsRow base 3 1 (.slice a 2 c) 2 (i64s [x,y])):∃ g,a=some ⟨g,0,none⟩∧base≤g∧g<w.heap.size∧w.cell? ⟨g,0,none⟩=some (.int .i64 x)∧w.cell? ⟨g,1,none⟩=some (.int .i64 y):=by
 obtain⟨a',n',c',he,hsl,hfr,-⟩:=own_slice h
 cases he
 rcases hsl.2 with h0 | ⟨b,off,rfl,hc⟩
 ·have:=congrArg List.length h0; simp [i64s] at this
 ·rcases h.2 with ⟨hv,-⟩ | ⟨g,cap,cur,hv,hb,hh,-⟩
  ·cases hv
  ·cases hv
   exact⟨b,rfl,hb,lt_of_block hh,hc 0 (by simp [i64s]),hc 1 (by simp [i64s])⟩
def wrrdT (BX b of nb nc:Nat) (xk xn:Int) (xs:ByteArray) (xc:Nat) (n0 n1:Int) (sd:ByteArray) (va:Option Addr) (vc:Nat) (l:List Rc) (w3 w1:World):Nat→Value→World→Prop
 | 0,v,w=>v = .slice va l.length vc
 | 1,v,w=>v = .slice (some ⟨nb,0,none⟩) 2 nc
 | 2,v,w=>v = .pointer (some ⟨nb,0,none⟩)
 | 3,v,w=>v = .int .i64 n0
 | 4,v,w=>v = .slice (some ⟨nb,0,none⟩) 2 nc
 | 5,v,w=>v = .pointer (some ⟨nb,1,none⟩)
 | 6,v,w=>v = .int .i64 n1
 | 7,v,w=>v = .pointer (some ⟨BX,3,none⟩)
 | 8,v,w=>v = .slice (some ⟨b,of,none⟩) 3 xc
 | 9,v,w=>v = .pointer (some ⟨b,of+8,none⟩)
 | 10,v,w=>v = .pointer (some ⟨b,of+10,none⟩)
 | 11,v,w=>v = .string sd
 | 12,v,w=>v = .agg #[.int .i64 n0,.int .i64 n1,.string sd]
 | 13,v,w=>∃ c,v = .slice (some ⟨c,0,none⟩) 1 1∧w1.heap.size≤c∧w.heap[c]? = some (.cells #[.int .i64 n0,.int .i64 n1,.string sd] 67 (0,0))
 | 14,v,w=>∃ a3 c3,v = .slice a3 (l.length+1) c3∧w.ownsRow w3.heap.size 67 3 (.slice a3 (l.length+1) c3) (l.length+1) (rcE.cells (l++[⟨n0,n1,sd⟩]))
 | _,_,_=>True
def wrrdD:Nat→List Nat
 | 14=>[13]
 | _=>[]
theorem wrrd_keep (BX b of nb nc:Nat) (xk xn:Int) (xs:ByteArray) (xc:Nat) (n0 n1:Int) (sd:ByteArray) (va:Option Addr) (vc:Nat) (l:List Rc) (w3 w1:World):∀ (j:Nat) (u:Value) (w w':World),Below w.heap.size w w'→(wrrdT BX b of nb nc xk xn xs xc n0 n1 sd va vc l w3 w1) j u w→(wrrdT BX b of nb nc xk xn xs xc n0 n1 sd va vc l w3 w1) j u w'
 | 13,u,w,w',hb,h=>by obtain⟨c,rfl,h0,h1⟩:=h; exact⟨c,rfl,h0,(hb.block _ (lt_of_block h1)).trans h1⟩
 | 14,u,w,w',hb,h=>by obtain⟨a3,c3,rfl,h1⟩:=h; exact⟨a3,c3,rfl,own_under h1 hb⟩
 | 0,u,w,w',hb,h=>h
 | 1,u,w,w',hb,h=>h
 | 2,u,w,w',hb,h=>h
 | 3,u,w,w',hb,h=>h
 | 4,u,w,w',hb,h=>h
 | 5,u,w,w',hb,h=>h
 | 6,u,w,w',hb,h=>h
 | 7,u,w,w',hb,h=>h
 | 8,u,w,w',hb,h=>h
 | 9,u,w,w',hb,h=>h
 | 10,u,w,w',hb,h=>h
 | 11,u,w,w',hb,h=>h
 | 12,u,w,w',hb,h=>h
 | _+15,u,w,w',hb,h=>trivial
set_option maxHeartbeats 4000000 in
theorem wrrd_steps (BX b of nb nc:Nat) (xk xn:Int) (xs:ByteArray) (xc:Nat) (n0 n1:Int) (sd:ByteArray) (va:Option Addr) (vc:Nat) (l:List Rc) (w3 w1:World) (hXb:BX<w1.heap.size) (hnb:nb<w1.heap.size) (hbw:w3.heap.size≤w1.heap.size) (hXn:some BX≠(Value.slice va l.length vc).ownBlock) (hNn:some nb≠(Value.slice va l.length vc).ownBlock) (hn:l.length≤1000000) (hb3:b<w3.heap.size) (hn0:w1.cell? ⟨nb,0,none⟩=some (.int .i64 n0)) (hn1:w1.cell? ⟨nb,1,none⟩=some (.int .i64 n1)) (hc10:w3.cell? ⟨b,of+10,none⟩=some (.string sd)) (hV:Tryz.prog.underlying 22 = some (.slice 67)) {a:Act}(hs:a.tmps.size=57) (b4:a.eval (.tmp 4) = .slice va l.length vc) (b7:a.eval (.tmp 7) = .slice (some ⟨nb,0,none⟩) 2 nc) (b6:a.eval (.tmp 6) = .pointer (some ⟨BX,0,none⟩)):∀ i o,i<15→(regOf Tryz.f69 10)[i]? = some o→StepOkE Tryz.prog (regOf Tryz.f69 10) a (fun e w=>(fun w=>Below w3.heap.size w3 w∧w1.heap.size≤w.heap.size∧Blk w BX 70 [.int .i64 xk,.int .i64 xn,.string xs,.slice (some ⟨b,of,none⟩) 3 xc]∧w.heap[nb]? = w1.heap[nb]?) w∧(e 14=none→(fun w=>w.ownsRow w3.heap.size 67 3 (.slice va l.length vc) l.length (rcE.cells l)) w)) (wrrdT BX b of nb nc xk xn xs xc n0 n1 sd va vc l w3 w1) wrrdD i o:=by
 have hz:∀ t,Nat.blt t 57=true→Nat.blt t a.tmps.size=true:=fun t h=>by rw [hs]; exact h
 have hsz:(regOf Tryz.f69 10).size=16:=by kernel_rfl
 intro i o hii ho
 match i,hii with
 | 0,_ =>
   have ho1:=opIs ho (p:=.move (.tmp 4)) (by kernel_rfl)
   have hg:=guardIs ho (p:=none) (by kernel_rfl)
   intro e A w hA hC hp hup K hk
   have hM:=hC.2 (hup 14 (by kernel_rfl))
   replace hC:=hC.1
   replace hk:Next (regOf Tryz.f69 10) (fun w=>(fun w=>Below w3.heap.size w3 w∧w1.heap.size≤w.heap.size∧Blk w BX 70 [.int .i64 xk,.int .i64 xn,.string xs,.slice (some ⟨b,of,none⟩) 3 xc]∧w.heap[nb]? = w1.heap[nb]?) w∧(fun w=>w.ownsRow w3.heap.size 67 3 (.slice va l.length vc) l.length (rcE.cells l)) w) (wrrdT BX b of nb nc xk xn xs xc n0 n1 sd va vc l w3 w1) wrrdD 0 e A w o.dst K:=hk.next fun v w h=>⟨h.1,fun _=>h.2⟩
   have hCM:=And.intro hC hM
   have x4:A.eval (.tmp 4) = .slice va l.length vc:=filled_base2 hA (by kernel_rfl) (hup 15 (by kernel_rfl)) b4
   have hw:Region.wanted o (yielded (regOf Tryz.f69 10) A.tmps)=true:=wanted_free hg
   exact step_pure hk hCM hw (run_move ho1 x4 w) rfl
 | 1,_ =>
   have ho1:=opIs ho (p:=.move (.tmp 7)) (by kernel_rfl)
   have hg:=guardIs ho (p:=none) (by kernel_rfl)
   intro e A w hA hC hp hup K hk
   have hM:=hC.2 (hup 14 (by kernel_rfl))
   replace hC:=hC.1
   replace hk:Next (regOf Tryz.f69 10) (fun w=>(fun w=>Below w3.heap.size w3 w∧w1.heap.size≤w.heap.size∧Blk w BX 70 [.int .i64 xk,.int .i64 xn,.string xs,.slice (some ⟨b,of,none⟩) 3 xc]∧w.heap[nb]? = w1.heap[nb]?) w∧(fun w=>w.ownsRow w3.heap.size 67 3 (.slice va l.length vc) l.length (rcE.cells l)) w) (wrrdT BX b of nb nc xk xn xs xc n0 n1 sd va vc l w3 w1) wrrdD 1 e A w o.dst K:=hk.next fun v w h=>⟨h.1,fun _=>h.2⟩
   have hCM:=And.intro hC hM
   have x7:A.eval (.tmp 7) = .slice (some ⟨nb,0,none⟩) 2 nc:=filled_base hA (by kernel_rfl) b7
   have hw:Region.wanted o (yielded (regOf Tryz.f69 10) A.tmps)=true:=wanted_free hg
   exact step_pure hk hCM hw (run_move ho1 x7 w) rfl
 | 2,_ =>
   have ho1:=opIs ho (p:=.indexAddr 23 (.tmp 41) (.const (.int .i64 0))) (by kernel_rfl)
   have hg:=guardIs ho (p:=none) (by kernel_rfl)
   intro e A w hA hC hp hup K hk
   have hM:=hC.2 (hup 14 (by kernel_rfl))
   replace hC:=hC.1
   replace hk:Next (regOf Tryz.f69 10) (fun w=>(fun w=>Below w3.heap.size w3 w∧w1.heap.size≤w.heap.size∧Blk w BX 70 [.int .i64 xk,.int .i64 xn,.string xs,.slice (some ⟨b,of,none⟩) 3 xc]∧w.heap[nb]? = w1.heap[nb]?) w∧(fun w=>w.ownsRow w3.heap.size 67 3 (.slice va l.length vc) l.length (rcE.cells l)) w) (wrrdT BX b of nb nc xk xn xs xc n0 n1 sd va vc l w3 w1) wrrdD 2 e A w o.dst K:=hk.next fun v w h=>⟨h.1,fun _=>h.2⟩
   have hCM:=And.intro hC hM
   have x41:A.eval (.tmp 41) = .slice (some ⟨nb,0,none⟩) 2 nc:=op_tmp hA hp 41 1 (by kernel_rfl) (by kernel_rfl) (by kernel_rfl) (hz _ rfl)
   have hw:Region.wanted o (yielded (regOf Tryz.f69 10) A.tmps)=true:=wanted_free hg
   refine step_pure (v:=.pointer (some ⟨nb,0,none⟩)) hk hCM hw ?_ rfl
   unfold execOp
   simp only [ho1]
   have xc:∀ v,A.eval (.const v)=v:=fun _=>rfl
   generalize A.eval=ρ at x41 xc ⊢
   simp [go_sem,x41,xc]
 | 3,_ =>
   have ho1:=opIs ho (p:=.load 3 (.tmp 42)) (by kernel_rfl)
   have hg:=guardIs ho (p:=none) (by kernel_rfl)
   intro e A w hA hC hp hup K hk
   have hM:=hC.2 (hup 14 (by kernel_rfl))
   replace hC:=hC.1
   replace hk:Next (regOf Tryz.f69 10) (fun w=>(fun w=>Below w3.heap.size w3 w∧w1.heap.size≤w.heap.size∧Blk w BX 70 [.int .i64 xk,.int .i64 xn,.string xs,.slice (some ⟨b,of,none⟩) 3 xc]∧w.heap[nb]? = w1.heap[nb]?) w∧(fun w=>w.ownsRow w3.heap.size 67 3 (.slice va l.length vc) l.length (rcE.cells l)) w) (wrrdT BX b of nb nc xk xn xs xc n0 n1 sd va vc l w3 w1) wrrdD 3 e A w o.dst K:=hk.next fun v w h=>⟨h.1,fun _=>h.2⟩
   have hCM:=And.intro hC hM
   have x42:A.eval (.tmp 42) = .pointer (some ⟨nb,0,none⟩):=op_tmp hA hp 42 2 (by kernel_rfl) (by kernel_rfl) (by kernel_rfl) (hz _ rfl)
   have hw:Region.wanted o (yielded (regOf Tryz.f69 10) A.tmps)=true:=wanted_free hg
   have e0:=(World.cell?_of_block (a:=⟨nb,0,none⟩) hC.2.2.2).trans hn0
   refine step_pure (v:=.int .i64 n0) hk hCM hw ?_ rfl
   unfold execOp
   simp only [ho1]
   skip
   generalize A.eval=ρ at x42 ⊢
   simp [go_sem,x42,e0]
 | 4,_ =>
   have ho1:=opIs ho (p:=.move (.tmp 7)) (by kernel_rfl)
   have hg:=guardIs ho (p:=none) (by kernel_rfl)
   intro e A w hA hC hp hup K hk
   have hM:=hC.2 (hup 14 (by kernel_rfl))
   replace hC:=hC.1
   replace hk:Next (regOf Tryz.f69 10) (fun w=>(fun w=>Below w3.heap.size w3 w∧w1.heap.size≤w.heap.size∧Blk w BX 70 [.int .i64 xk,.int .i64 xn,.string xs,.slice (some ⟨b,of,none⟩) 3 xc]∧w.heap[nb]? = w1.heap[nb]?) w∧(fun w=>w.ownsRow w3.heap.size 67 3 (.slice va l.length vc) l.length (rcE.cells l)) w) (wrrdT BX b of nb nc xk xn xs xc n0 n1 sd va vc l w3 w1) wrrdD 4 e A w o.dst K:=hk.next fun v w h=>⟨h.1,fun _=>h.2⟩
   have hCM:=And.intro hC hM
   have x7:A.eval (.tmp 7) = .slice (some ⟨nb,0,none⟩) 2 nc:=filled_base hA (by kernel_rfl) b7
   have hw:Region.wanted o (yielded (regOf Tryz.f69 10) A.tmps)=true:=wanted_free hg
   exact step_pure hk hCM hw (run_move ho1 x7 w) rfl
 | 5,_ =>
   have ho1:=opIs ho (p:=.indexAddr 23 (.tmp 44) (.const (.int .i64 1))) (by kernel_rfl)
   have hg:=guardIs ho (p:=none) (by kernel_rfl)
   intro e A w hA hC hp hup K hk
   have hM:=hC.2 (hup 14 (by kernel_rfl))
   replace hC:=hC.1
   replace hk:Next (regOf Tryz.f69 10) (fun w=>(fun w=>Below w3.heap.size w3 w∧w1.heap.size≤w.heap.size∧Blk w BX 70 [.int .i64 xk,.int .i64 xn,.string xs,.slice (some ⟨b,of,none⟩) 3 xc]∧w.heap[nb]? = w1.heap[nb]?) w∧(fun w=>w.ownsRow w3.heap.size 67 3 (.slice va l.length vc) l.length (rcE.cells l)) w) (wrrdT BX b of nb nc xk xn xs xc n0 n1 sd va vc l w3 w1) wrrdD 5 e A w o.dst K:=hk.next fun v w h=>⟨h.1,fun _=>h.2⟩
   have hCM:=And.intro hC hM
   have x44:A.eval (.tmp 44) = .slice (some ⟨nb,0,none⟩) 2 nc:=op_tmp hA hp 44 4 (by kernel_rfl) (by kernel_rfl) (by kernel_rfl) (hz _ rfl)
   have hw:Region.wanted o (yielded (regOf Tryz.f69 10) A.tmps)=true:=wanted_free hg
   refine step_pure (v:=.pointer (some ⟨nb,1,none⟩)) hk hCM hw ?_ rfl
   unfold execOp
   simp only [ho1]
   have xc:∀ v,A.eval (.const v)=v:=fun _=>rfl
   generalize A.eval=ρ at x44 xc ⊢
   simp [go_sem,x44,xc]
 | 6,_ =>
   have ho1:=opIs ho (p:=.load 3 (.tmp 45)) (by kernel_rfl)
   have hg:=guardIs ho (p:=none) (by kernel_rfl)
   intro e A w hA hC hp hup K hk
   have hM:=hC.2 (hup 14 (by kernel_rfl))
   replace hC:=hC.1
   replace hk:Next (regOf Tryz.f69 10) (fun w=>(fun w=>Below w3.heap.size w3 w∧w1.heap.size≤w.heap.size∧Blk w BX 70 [.int .i64 xk,.int .i64 xn,.string xs,.slice (some ⟨b,of,none⟩) 3 xc]∧w.heap[nb]? = w1.heap[nb]?) w∧(fun w=>w.ownsRow w3.heap.size 67 3 (.slice va l.length vc) l.length (rcE.cells l)) w) (wrrdT BX b of nb nc xk xn xs xc n0 n1 sd va vc l w3 w1) wrrdD 6 e A w o.dst K:=hk.next fun v w h=>⟨h.1,fun _=>h.2⟩
   have hCM:=And.intro hC hM
   have x45:A.eval (.tmp 45) = .pointer (some ⟨nb,1,none⟩):=op_tmp hA hp 45 5 (by kernel_rfl) (by kernel_rfl) (by kernel_rfl) (hz _ rfl)
   have hw:Region.wanted o (yielded (regOf Tryz.f69 10) A.tmps)=true:=wanted_free hg
   have e0:=(World.cell?_of_block (a:=⟨nb,1,none⟩) hC.2.2.2).trans hn1
   refine step_pure (v:=.int .i64 n1) hk hCM hw ?_ rfl
   unfold execOp
   simp only [ho1]
   skip
   generalize A.eval=ρ at x45 ⊢
   simp [go_sem,x45,e0]
 | 7,_ =>
   have ho1:=opIs ho (p:=.fieldAddr 70 (.tmp 6) 3) (by kernel_rfl)
   have hg:=guardIs ho (p:=none) (by kernel_rfl)
   intro e A w hA hC hp hup K hk
   have hM:=hC.2 (hup 14 (by kernel_rfl))
   replace hC:=hC.1
   replace hk:Next (regOf Tryz.f69 10) (fun w=>(fun w=>Below w3.heap.size w3 w∧w1.heap.size≤w.heap.size∧Blk w BX 70 [.int .i64 xk,.int .i64 xn,.string xs,.slice (some ⟨b,of,none⟩) 3 xc]∧w.heap[nb]? = w1.heap[nb]?) w∧(fun w=>w.ownsRow w3.heap.size 67 3 (.slice va l.length vc) l.length (rcE.cells l)) w) (wrrdT BX b of nb nc xk xn xs xc n0 n1 sd va vc l w3 w1) wrrdD 7 e A w o.dst K:=hk.next fun v w h=>⟨h.1,fun _=>h.2⟩
   have hCM:=And.intro hC hM
   have x6:A.eval (.tmp 6) = .pointer (some ⟨BX,0,none⟩):=filled_base hA (by kernel_rfl) b6
   have hw:Region.wanted o (yielded (regOf Tryz.f69 10) A.tmps)=true:=wanted_free hg
   refine step_pure (v:=.pointer (some ⟨BX,3,none⟩)) hk hCM hw ?_ rfl
   unfold execOp
   simp only [ho1]
   generalize A.eval=ρ at x6 ⊢
   simp [go_sem,x6]
 | 8,_ =>
   have ho1:=opIs ho (p:=.load 68 (.tmp 47)) (by kernel_rfl)
   have hg:=guardIs ho (p:=none) (by kernel_rfl)
   intro e A w hA hC hp hup K hk
   have hM:=hC.2 (hup 14 (by kernel_rfl))
   replace hC:=hC.1
   replace hk:Next (regOf Tryz.f69 10) (fun w=>(fun w=>Below w3.heap.size w3 w∧w1.heap.size≤w.heap.size∧Blk w BX 70 [.int .i64 xk,.int .i64 xn,.string xs,.slice (some ⟨b,of,none⟩) 3 xc]∧w.heap[nb]? = w1.heap[nb]?) w∧(fun w=>w.ownsRow w3.heap.size 67 3 (.slice va l.length vc) l.length (rcE.cells l)) w) (wrrdT BX b of nb nc xk xn xs xc n0 n1 sd va vc l w3 w1) wrrdD 8 e A w o.dst K:=hk.next fun v w h=>⟨h.1,fun _=>h.2⟩
   have hCM:=And.intro hC hM
   have x47:A.eval (.tmp 47) = .pointer (some ⟨BX,3,none⟩):=op_tmp hA hp 47 7 (by kernel_rfl) (by kernel_rfl) (by kernel_rfl) (hz _ rfl)
   have hw:Region.wanted o (yielded (regOf Tryz.f69 10) A.tmps)=true:=wanted_free hg
   have e1:=Blk.cell (j:=3) hC.2.2.1 rfl
   refine step_pure (v:=.slice (some ⟨b,of,none⟩) 3 xc) hk hCM hw ?_ rfl
   unfold execOp
   simp only [ho1]
   skip
   generalize A.eval=ρ at x47 ⊢
   simp [go_sem,x47,e1]
 | 9,_ =>
   have ho1:=opIs ho (p:=.indexAddr 68 (.tmp 48) (.const (.int .i64 2))) (by kernel_rfl)
   have hg:=guardIs ho (p:=none) (by kernel_rfl)
   intro e A w hA hC hp hup K hk
   have hM:=hC.2 (hup 14 (by kernel_rfl))
   replace hC:=hC.1
   replace hk:Next (regOf Tryz.f69 10) (fun w=>(fun w=>Below w3.heap.size w3 w∧w1.heap.size≤w.heap.size∧Blk w BX 70 [.int .i64 xk,.int .i64 xn,.string xs,.slice (some ⟨b,of,none⟩) 3 xc]∧w.heap[nb]? = w1.heap[nb]?) w∧(fun w=>w.ownsRow w3.heap.size 67 3 (.slice va l.length vc) l.length (rcE.cells l)) w) (wrrdT BX b of nb nc xk xn xs xc n0 n1 sd va vc l w3 w1) wrrdD 9 e A w o.dst K:=hk.next fun v w h=>⟨h.1,fun _=>h.2⟩
   have hCM:=And.intro hC hM
   have x48:A.eval (.tmp 48) = .slice (some ⟨b,of,none⟩) 3 xc:=op_tmp hA hp 48 8 (by kernel_rfl) (by kernel_rfl) (by kernel_rfl) (hz _ rfl)
   have hw:Region.wanted o (yielded (regOf Tryz.f69 10) A.tmps)=true:=wanted_free hg
   refine step_pure (v:=.pointer (some ⟨b,of+8,none⟩)) hk hCM hw ?_ rfl
   unfold execOp
   simp only [ho1]
   have xc:∀ v,A.eval (.const v)=v:=fun _=>rfl
   generalize A.eval=ρ at x48 xc ⊢
   simp [go_sem,x48,xc]
 | 10,_ =>
   have ho1:=opIs ho (p:=.fieldAddr 70 (.tmp 49) 2) (by kernel_rfl)
   have hg:=guardIs ho (p:=none) (by kernel_rfl)
   intro e A w hA hC hp hup K hk
   have hM:=hC.2 (hup 14 (by kernel_rfl))
   replace hC:=hC.1
   replace hk:Next (regOf Tryz.f69 10) (fun w=>(fun w=>Below w3.heap.size w3 w∧w1.heap.size≤w.heap.size∧Blk w BX 70 [.int .i64 xk,.int .i64 xn,.string xs,.slice (some ⟨b,of,none⟩) 3 xc]∧w.heap[nb]? = w1.heap[nb]?) w∧(fun w=>w.ownsRow w3.heap.size 67 3 (.slice va l.length vc) l.length (rcE.cells l)) w) (wrrdT BX b of nb nc xk xn xs xc n0 n1 sd va vc l w3 w1) wrrdD 10 e A w o.dst K:=hk.next fun v w h=>⟨h.1,fun _=>h.2⟩
   have hCM:=And.intro hC hM
   have x49:A.eval (.tmp 49) = .pointer (some ⟨b,of+8,none⟩):=op_tmp hA hp 49 9 (by kernel_rfl) (by kernel_rfl) (by kernel_rfl) (hz _ rfl)
   have hw:Region.wanted o (yielded (regOf Tryz.f69 10) A.tmps)=true:=wanted_free hg
   refine step_pure (v:=.pointer (some ⟨b,of+10,none⟩)) hk hCM hw ?_ rfl
   unfold execOp
   simp only [ho1]
   skip
   generalize A.eval=ρ at x49 ⊢
   simp [go_sem,x49]
 | 11,_ =>
   have ho1:=opIs ho (p:=.load 9 (.tmp 50)) (by kernel_rfl)
   have hg:=guardIs ho (p:=none) (by kernel_rfl)
   intro e A w hA hC hp hup K hk
   have hM:=hC.2 (hup 14 (by kernel_rfl))
   replace hC:=hC.1
   replace hk:Next (regOf Tryz.f69 10) (fun w=>(fun w=>Below w3.heap.size w3 w∧w1.heap.size≤w.heap.size∧Blk w BX 70 [.int .i64 xk,.int .i64 xn,.string xs,.slice (some ⟨b,of,none⟩) 3 xc]∧w.heap[nb]? = w1.heap[nb]?) w∧(fun w=>w.ownsRow w3.heap.size 67 3 (.slice va l.length vc) l.length (rcE.cells l)) w) (wrrdT BX b of nb nc xk xn xs xc n0 n1 sd va vc l w3 w1) wrrdD 11 e A w o.dst K:=hk.next fun v w h=>⟨h.1,fun _=>h.2⟩
   have hCM:=And.intro hC hM
   have x50:A.eval (.tmp 50) = .pointer (some ⟨b,of+10,none⟩):=op_tmp hA hp 50 10 (by kernel_rfl) (by kernel_rfl) (by kernel_rfl) (hz _ rfl)
   have hw:Region.wanted o (yielded (regOf Tryz.f69 10) A.tmps)=true:=wanted_free hg
   have e0:=(World.cell?_of_block (a:=⟨b,of+10,none⟩) (hC.1.block b hb3)).trans hc10
   refine step_pure (v:=.string sd) hk hCM hw ?_ rfl
   unfold execOp
   simp only [ho1]
   skip
   generalize A.eval=ρ at x50 ⊢
   simp [go_sem,x50,e0]
 | 12,_ =>
   have ho1:=opIs ho (p:=.build 67 #[(0,(.tmp 43)),(1,(.tmp 46)),(2,(.tmp 51))]) (by kernel_rfl)
   have hg:=guardIs ho (p:=none) (by kernel_rfl)
   intro e A w hA hC hp hup K hk
   have hM:=hC.2 (hup 14 (by kernel_rfl))
   replace hC:=hC.1
   replace hk:Next (regOf Tryz.f69 10) (fun w=>(fun w=>Below w3.heap.size w3 w∧w1.heap.size≤w.heap.size∧Blk w BX 70 [.int .i64 xk,.int .i64 xn,.string xs,.slice (some ⟨b,of,none⟩) 3 xc]∧w.heap[nb]? = w1.heap[nb]?) w∧(fun w=>w.ownsRow w3.heap.size 67 3 (.slice va l.length vc) l.length (rcE.cells l)) w) (wrrdT BX b of nb nc xk xn xs xc n0 n1 sd va vc l w3 w1) wrrdD 12 e A w o.dst K:=hk.next fun v w h=>⟨h.1,fun _=>h.2⟩
   have hCM:=And.intro hC hM
   have x43:A.eval (.tmp 43) = .int .i64 n0:=op_tmp hA hp 43 3 (by kernel_rfl) (by kernel_rfl) (by kernel_rfl) (hz _ rfl)
   have x46:A.eval (.tmp 46) = .int .i64 n1:=op_tmp hA hp 46 6 (by kernel_rfl) (by kernel_rfl) (by kernel_rfl) (hz _ rfl)
   have x51:A.eval (.tmp 51) = .string sd:=op_tmp hA hp 51 11 (by kernel_rfl) (by kernel_rfl) (by kernel_rfl) (hz _ rfl)
   have hw:Region.wanted o (yielded (regOf Tryz.f69 10) A.tmps)=true:=wanted_free hg
   refine step_pure (v:=.agg #[.int .i64 n0,.int .i64 n1,.string sd]) hk hCM hw ?_ rfl
   unfold execOp
   simp only [ho1]
   skip
   generalize A.eval=ρ at x43 x46 x51 ⊢
   simp [go_sem,x43,x46,x51]
 | 13,_ =>
   have ho1:=opIs ho (p:=.buildSlice 22 1 #[(0,(.tmp 52))]) (by kernel_rfl)
   have hg:=guardIs ho (p:=none) (by kernel_rfl)
   intro e A w hA hC hp hup K hk
   have hM:=hC.2 (hup 14 (by kernel_rfl))
   replace hC:=hC.1
   replace hk:Next (regOf Tryz.f69 10) (fun w=>(fun w=>Below w3.heap.size w3 w∧w1.heap.size≤w.heap.size∧Blk w BX 70 [.int .i64 xk,.int .i64 xn,.string xs,.slice (some ⟨b,of,none⟩) 3 xc]∧w.heap[nb]? = w1.heap[nb]?) w∧(fun w=>w.ownsRow w3.heap.size 67 3 (.slice va l.length vc) l.length (rcE.cells l)) w) (wrrdT BX b of nb nc xk xn xs xc n0 n1 sd va vc l w3 w1) wrrdD 13 e A w o.dst K:=hk.next fun v w h=>⟨h.1,fun _=>h.2⟩
   have hCM:=And.intro hC hM
   have x52:A.eval (.tmp 52) = .agg #[.int .i64 n0,.int .i64 n1,.string sd]:=op_tmp hA hp 52 12 (by kernel_rfl) (by kernel_rfl) (by kernel_rfl) (hz _ rfl)
   have hw:Region.wanted o (yielded (regOf Tryz.f69 10) A.tmps)=true:=wanted_free hg
   refine step_value (v:=.slice (some ⟨w.heap.size,0,none⟩) 1 1) (w':=w.alloc (.cells #[.int .i64 n0,.int .i64 n1,.string sd] 67)) hk hw ?_ ?_ ?_ ?_
   ·unfold execOp
    simp only [ho1]
    generalize A.eval=ρ at x52 ⊢
    simp [go_sem,x52]
   ·exact⟨w.heap.size,rfl,hC.2.1,heap_alloc_new w _⟩
   ·exact⟨⟨hC.1.alloc hC.1.size _,by have:=hC.2.1; simp; omega,hC.2.2.1.alloc _,(heap_alloc_old w _ (by have:=hC.2.1; omega)).trans hC.2.2.2⟩,own_under hM ((Below.refl _ w).alloc (Nat.le_refl _) _)⟩
   ·intro j u _ _ _ _ h
    exact wrrd_keep BX b of nb nc xk xn xs xc n0 n1 sd va vc l w3 w1 j u w _ ((Below.refl _ w).alloc (Nat.le_refl _) _) h
 | 14,_ =>
   have ho1:=opIs ho (p:=.call { callee:=(.builtin .append),args:=#[(.tmp 40),(.tmp 53)],argTypes:=#[22,22] }) (by kernel_rfl)
   have hg:=guardIs ho (p:=none) (by kernel_rfl)
   intro e A w hA hC hp hup K hk
   have hM:=hC.2 (hup 14 (by kernel_rfl))
   have x40:A.eval (.tmp 40) = .slice va l.length vc:=op_tmp hA hp 40 0 (by kernel_rfl) (by kernel_rfl) (by kernel_rfl) (hz _ rfl)
   have x53:=op_tmp hA hp 53 13 (by kernel_rfl) (by kernel_rfl) (by kernel_rfl) (hz _ rfl)
   have hw:Region.wanted o (yielded (regOf Tryz.f69 10) A.tmps)=true:=wanted_free hg
   obtain⟨c,x53,hc0',h3⟩:=x53
   have hle:=hC.1.2.1
   obtain⟨i0,hi0,hz0,hz1,hz2⟩:=infoR
   obtain⟨a3,c3,w',hr,ho,hg⟩:=rowApp i0 hi0 hz0 hz1 hz2 rfl (by decide) hM c [.int .i64 n0,.int .i64 n1,.string sd] _ 22 o.type hV h3 rfl (by intro u hu; simp at hu; rcases hu with rfl | rfl | rfl <;> rfl) hn (by decide) (Nat.le_trans hbw hle)
   have hO:∀ p,p<w3.heap.size→some p≠(Value.slice va l.length vc).ownBlock:=fun p hp e=>by have:=(hM.lt _ e.symm).1; omega
   rw [if_pos hw]
   unfold Oper.wp
   rw [show (execOp A.eval o).run Tryz.prog w = .ok (.value (.slice a3 (l.length+1) c3)) w' by
    unfold execOp
    simp only [ho1,resolve,invoke,builtin,Sem.run_bind,Sem.run_pure,Result.andThen_ok,List.map_toArray,List.map_cons,List.map_nil,x40,x53,hr]]
   obtain⟨⟨h1,h2,h4,h9⟩,-⟩:=hC
   refine hk _ _ ⟨a3,c3,rfl,by rw [rcE.cells_append]; exact ho⟩ ⟨⟨h1.grown hg h1.size (fun q e=>by have:=(hM.lt q e).1; omega),Nat.le_trans h2 hg.size,h4.kept hg hXn,(hg.block nb (by omega) hNn).trans h9⟩,fun h=>by rw [Vals.set_same] at h; cases h⟩ ?_
   intro j u hj hji _ hd h
   match j,h with
   | 0,h=>exact h
   | 1,h=>exact h
   | 2,h=>exact h
   | 3,h=>exact h
   | 4,h=>exact h
   | 5,h=>exact h
   | 6,h=>exact h
   | 7,h=>exact h
   | 8,h=>exact h
   | 9,h=>exact h
   | 10,h=>exact h
   | 11,h=>exact h
   | 12,h=>exact h
   | 13,h=>exact absurd rfl (hd 14 (by rw [hsz]; decide) rfl).1
   | 14,h=>exact absurd rfl hji
   | _+15,h=>trivial
 | _+15,h=>exact absurd h (by omega)
set_option maxRecDepth 100000 in
set_option maxHeartbeats 2000000 in
theorem wreadRecs_any (k n:Int) (s:ByteArray) (a:Option Addr) (l:List V) (c:Nat) (w:World) (S:Nat→Prop) (hS:∀ p,S p→p<w.heap.size) (hall:VAll w S a 0 l) (hm:l.length≤4000) (b:Bool) (hb:Hid (b=(decide (k=3)&&l.all recAllB))) :
 Calls Tryz.prog 69 #[.agg #[.int .i64 k,.int .i64 n,.string s,.slice a l.length c]] w (RecsP w b (l.map recCut)):=by
 have HB0:=Lib.hid ((Below.refl w.heap.size w).alloc (Nat.le_refl _) (.cells #[.int .i64 k,.int .i64 n,.string s,.slice a l.length c] 70))
 have HF0:=Lib.hid (Four.new w 70 (.int .i64 k) (.int .i64 n) (.string s) (.slice a l.length c))
 have HS0:Hid ((w.alloc (.cells #[.int .i64 k,.int .i64 n,.string s,.slice a l.length c] 70)).heap.size=w.heap.size+1):=Lib.hid (by simp)
 have HALL:=Lib.hid (VAll.move (w':=w.alloc (.cells #[.int .i64 k,.int .i64 n,.string s,.slice a l.length c] 70)) (fun _ h=>h) (fun p hp=>HB0.out.block p (hS p hp)) _ _ _ hall)
 have HSP:=Lib.hid (fun p (hp:S p)=>show p<(w.alloc (.cells #[.int .i64 k,.int .i64 n,.string s,.slice a l.length c] 70)).heap.size from Nat.lt_of_lt_of_le (hS p hp) HB0.out.size)
 clear hall hS
 go_enter Tryz.func69,Tryz.ntmps69
 go_upto_region 1 with fail
 generalize (w.alloc (.cells #[.int .i64 k,.int .i64 n,.string s,.slice a l.length c] 70))=w0 at *
 have v0:=HF0.out.c0
 have v3:=HF0.out.c3
 by_cases hk:k=3
 ·subst hk
  have HV:Hid (b=l.all recAllB):=Lib.hid (by rw [hb.out]; simp)
  clear hb
  go_wp2_with fail
  clear v0 v3
  go_loopg [4,15] l.length (fun gk vo v wr=>∃ (j:Nat) (va:Option Addr) (vc:Nat) (l3:List Rc),j≤l.length∧gk=l.length - j∧v = .int .i64 (j:Int)∧vo = .slice va l3.length vc∧Hid (l3=(l.take j).map recCut)∧Hid (∀ y∈l.take j,recAllB y=true)∧Hid (wr.ownsRow w0.heap.size 67 3 (.slice va l3.length vc) l3.length (rcE.cells l3))∧Hid (Below w0.heap.size w0 wr))
  case atStart=>exact⟨0,none,0,[],Nat.zero_le _,rfl,rfl,rfl,Lib.hid rfl,Lib.hid (fun y hy=>by simp at hy),Lib.hid (World.ownsRow_nil _ _ _ _),Lib.hid (Below.refl _ _)⟩
  case round =>
   obtain⟨j,va,vc,l3,hj,rfl,rfl,rfl,HL3,HG,hO,hB⟩:=hrel
   by_cases hjn:j<l.length
   ·have hji:(j:Int)<(l.length:Int):=by omega
    have HJN:=Lib.hid hjn
    have hjl:j<l.length:=by omega
    obtain⟨b9,o9,cs9,rfl,hSb,hat9,hc9⟩:=HALL.out.at 0 l j hjl
    rw [Nat.zero_add] at hc9
    have HLT:Hid (l3++[recCut l[j]]=(l.take (j+1)).map recCut):=Lib.hid (by rw [HL3.out,List.take_add_one,List.getElem?_eq_getElem hjl,List.map_append]; rfl)
    have HG2:Hid (recAllB l[j]=true→∀ y∈l.take (j+1),recAllB y=true):=Lib.hid (fun h y hy=>by
     rw [List.take_add_one,List.getElem?_eq_getElem hjl,List.mem_append] at hy
     rcases hy with hy | hy
     ·exact HG.out y hy
     ·rw [Option.toList_some,List.mem_singleton] at hy; rw [hy]; exact h)
    have HFS:Hid (recAllB l[j]=false→b=false):=Lib.hid (fun h=>(by rw [HV.out,List.all_eq_false]; exact⟨_,List.getElem_mem hjl,by rw [h]; decide⟩))
    have HN3:Hid (l3.length≤1000000):=Lib.hid (by rw [HL3.out,List.length_map,List.length_take]; omega)
    generalize l[j]=x9 at *
    obtain⟨xk,xn,xs,xl⟩:=x9
    simp only [V.At] at hat9
    obtain⟨xa,xc,rfl,hxc,hx0,hall9⟩:=hat9
    have y0:=cell_keep hB.out (hc9 0 _ rfl)
    have y1:=cell_keep hB.out (hc9 1 _ rfl)
    have y2:=cell_keep hB.out (hc9 2 _ rfl)
    have y3:=cell_keep hB.out (hc9 3 _ rfl)
    simp only [Nat.add_zero] at y0
    clear hc9 HL3
    have hbq:Below wr.heap.size wr (wr.alloc (.cells #[.int .i64 xk,.int .i64 xn,.string xs,.slice xa xl.length xc] 70)):=(Below.refl _ wr).alloc (Nat.le_refl _) _
    have HOq:=Lib.hid (own_under hO.out hbq)
    have HBq:=Lib.hid (hB.out.trans (Below.lower hbq hB.out.size))
    have HXq:Hid (Blk (wr.alloc (.cells #[.int .i64 xk,.int .i64 xn,.string xs,.slice xa xl.length xc] 70)) wr.heap.size 70 [.int .i64 xk,.int .i64 xn,.string xs,.slice xa xl.length xc]):=Lib.hid (heap_alloc_new wr _)
    have HSq:Hid ((wr.alloc (.cells #[.int .i64 xk,.int .i64 xn,.string xs,.slice xa xl.length xc] 70)).heap.size=wr.heap.size+1):=Lib.hid (by simp)
    have HOL:=Lib.hid hO.out.lt
    have HALX:=Lib.hid hall9
    have hsr:=hB.out.size
    clear hbq hO hB HG hall9 hSb
    go_upto_region 7 with fail
    clear y0 y1 y2 y3
    generalize (wr.alloc (.cells #[.int .i64 xk,.int .i64 xn,.string xs,.slice xa xl.length xc] 70))=wq at *
    have hsq:=HSq.out
    have HALQ:=Lib.hid (VAll.move (w':=wq) (fun _ h=>h) (fun p hp=>HBq.out.block p (HSP.out p hp)) _ _ _ HALX.out)
    have x0:=HXq.out.cell (j:=0) rfl
    have x1:=HXq.out.cell (j:=1) rfl
    have x2:=HXq.out.cell (j:=2) rfl
    have x3:=HXq.out.cell (j:=3) rfl
    have hcall:=Lib.hid (wnums_any xk xn xs xa xl xc 2 wq S HALQ.out hxc hx0 (by decide) _ (Lib.hid rfl))
    go_wp2_with fail
    refine hcall.out.mono ?_
    rintro e wz ⟨hbz,hcase⟩
    have HBz:=Lib.hid (below_then HBq.out hbz HBq.out.size)
    have HOz:=Lib.hid (own_under HOq.out hbz)
    have HXz:=Lib.hid (HXq.out.keep hbz)
    have HBW:=Lib.hid (HB0.out.trans (Below.lower HBz.out HB0.out.size))
    have hsz:wq.heap.size≤wz.heap.size:=hbz.size
    clear x0 x1 x2 x3 hbz HOq HBq HXq HALQ hcall
    rcases hcase with ⟨hbf,fa,fn',fc,rfl⟩ | ⟨hbt,na,nc,rfl,hnums⟩
    ·have HZ9:=Lib.hid (HFS.out (by
      unfold recAllB
      rw [decide_eq_false_iff_not]
      intro h
      obtain⟨h1,h2,h3,h4,-⟩:=h
      have h1:xk=3:=h1
      have h2:xl.length=3:=h2
      obtain⟨p,q,r,rfl⟩:∃ p q r,xl=[p,q,r]:=by
       match xl,h2 with
       | [p,q,r],_=>exact⟨p,q,r,rfl⟩
      have h3:p.k=1:=h3
      have h4:q.k=1:=h4
      have:(decide (xk=3∧2≤[p,q,r].length)&&([p,q,r].take 2).all isNum)=true:=by
       rw [decide_eq_true (⟨h1,by simp⟩:xk=3∧2≤[p,q,r].length),Bool.true_and]
       simp [isNum,h3,h4]
      rw [this] at hbf
      cases hbf))
     clear hbf HFS HG2 HOz HXz
     go_wp2_with fail
     go_ret2
     exact⟨HBW.out,.inl ⟨HZ9.out,_,_,_,rfl⟩⟩
    ·rw [Bool.and_eq_true,decide_eq_true_eq,List.all_eq_true] at hbt
     obtain⟨⟨rfl,hx2⟩,hnm⟩:=hbt
     have x3:=HXz.out.cell (j:=3) rfl
     by_cases hl3:xl.length=3
     ·obtain⟨b8,o8,rfl,hS8,hel⟩:=elemsV HALX.out (by rw [hl3]; decide)
      have hb8:b8<w0.heap.size:=HSP.out _ hS8
      obtain⟨za2,zc2,-,m8,m9,m10,m11⟩:=hel 2 (by rw [hl3]; decide)
      simp only [Nat.reduceMul,Nat.add_assoc,Nat.reduceAdd] at m8 m9 m10 m11
      clear hel
      obtain⟨G0,G1,G2,rfl⟩:∃ p q r,xl=[p,q,r]:=by
       match xl,hl3 with
       | [p,q,r],_=>exact⟨p,q,r,rfl⟩
      change w0.cell? ⟨b8,o8+8,none⟩=some (.int .i64 G2.k) at m8
      change w0.cell? ⟨b8,o8+10,none⟩=some (.string G2.s) at m10
      have hnum0:G0.k=1:=of_decide_eq_true (hnm G0 (by simp))
      have hnum1:G1.k=1:=of_decide_eq_true (hnm G1 (by simp))
      have HREC:Hid (recAllB (V.mk 3 xn xs [G0,G1,G2])=decide (G2.k=2)):=Lib.hid (by
       unfold recAllB
       exact decide_eq_decide.2 ⟨fun h=>h.2.2.2.2,fun h=>⟨rfl,rfl,hnum0,hnum1,h⟩⟩)
      have HRC:Hid (recCut (V.mk 3 xn xs [G0,G1,G2])=⟨cl G0.n,cl G1.n,G2.s⟩):=Lib.hid rfl
      obtain⟨nb,rfl,hnb0,hnb,hn0,hn1⟩:=own_two (x:=cl G0.n) (y:=cl G1.n) hnums
      change wz.cell? ⟨wr.heap.size,3,none⟩=some (.slice (some ⟨b8,o8,none⟩) 3 xc) at x3
      have y8:=cell_keep HBz.out m8
      by_cases hk2:G2.k=2
      ·rw [hk2] at y8
       have HG3:=Lib.hid (HG2.out (by rw [HREC.out,decide_eq_true hk2]))
       have hc10:=m10
       clear HREC HFS HG2 hk2 hnums hnm hnum0 hnum1 m8 m9 m10 m11 hl3 HALX hxc hx0 hx2
       generalize cl G0.n=n0 at *
       generalize cl G1.n=n1 at *
       generalize G2.s=sd at *
       replace HXz:=Lib.hid (show Blk wz wr.heap.size 70 [.int .i64 3,.int .i64 xn,.string xs,.slice (some ⟨b8,o8,none⟩) 3 xc] from HXz.out)
       go_wp2_with fail
       clear x3 y8
       refine wp_region_lastE (regOf Tryz.f69 10) [some 40,some 41,some 42,some 43,some 44,some 45,some 46,some 47,some 48,some 49,some 50,some 51,some 52,some 53,some 54] 15 (wrrdT wr.heap.size b8 o8 nb nc 3 xn xs xc n0 n1 sd va vc l3 w0 wz) (fun e w'=>(Below w0.heap.size w0 w'∧wz.heap.size≤w'.heap.size∧Blk w' wr.heap.size 70 [.int .i64 3,.int .i64 xn,.string xs,.slice (some ⟨b8,o8,none⟩) 3 xc]∧w'.heap[nb]? = wz.heap[nb]?)∧(e 14=none→w'.ownsRow w0.heap.size 67 3 (.slice va l3.length vc) l3.length (rcE.cells l3))) wrrdD (by kernel_rfl) (by kernel_rfl) (by kernel_rfl) (by kernel_rfl) (by kernel_rfl) (by kernel_rfl) (by kernel_rfl) ⟨⟨HBz.out.drew,Nat.le_refl _,HXz.out,rfl⟩,fun _=>own_under HOz.out ((Below.refl _ _).drew)⟩
        (wrrd_steps wr.heap.size b8 o8 nb nc 3 xn xs xc n0 n1 sd va vc l3 w0 wz (by omega) hnb (by omega) (fun e=>by have:=(HOL.out _ e.symm).2; omega) (fun e=>by have:=(HOL.out _ e.symm).2; omega) HN3.out hb8 hn0 hn1 hc10 (by kernel_rfl) (by kernel_rfl) (by kernel_rfl) (by kernel_rfl) (by kernel_rfl)) ?_
       intro oL hoL eL vs w9 hn hallL hCw9 hT KL hKL
       replace hn:vs.length=15:=hn
       obtain⟨v0,vs1,rfl,hn1⟩:=len_cons hn
       obtain⟨v1,vs2,rfl,hn2⟩:=len_cons hn1
       obtain⟨v2,vs3,rfl,hn3⟩:=len_cons hn2
       obtain⟨v3,vs4,rfl,hn4⟩:=len_cons hn3
       obtain⟨v4,vs5,rfl,hn5⟩:=len_cons hn4
       obtain⟨v5,vs6,rfl,hn6⟩:=len_cons hn5
       obtain⟨v6,vs7,rfl,hn7⟩:=len_cons hn6
       obtain⟨v7,vs8,rfl,hn8⟩:=len_cons hn7
       obtain⟨v8,vs9,rfl,hn9⟩:=len_cons hn8
       obtain⟨v9,vs10,rfl,hn10⟩:=len_cons hn9
       obtain⟨v10,vs11,rfl,hn11⟩:=len_cons hn10
       obtain⟨v11,vs12,rfl,hn12⟩:=len_cons hn11
       obtain⟨v12,vs13,rfl,hn13⟩:=len_cons hn12
       obtain⟨v13,vs14,rfl,hn14⟩:=len_cons hn13
       obtain⟨v14,vs15,rfl,hn15⟩:=len_cons hn14
       obtain rfl:=List.eq_nil_of_length_eq_zero hn15
       clear hn hn1 hn2 hn3 hn4 hn5 hn6 hn7 hn8 hn9 hn10 hn11 hn12 hn13 hn14 hn15
       obtain rfl:v0 = .slice va l3.length vc:=hT 0 v0 rfl (by kernel_rfl)
       obtain rfl:v1 = .slice (some ⟨nb,0,none⟩) 2 nc:=hT 1 v1 rfl (by kernel_rfl)
       obtain rfl:v2 = .pointer (some ⟨nb,0,none⟩):=hT 2 v2 rfl (by kernel_rfl)
       obtain rfl:v3 = .int .i64 n0:=hT 3 v3 rfl (by kernel_rfl)
       obtain rfl:v4 = .slice (some ⟨nb,0,none⟩) 2 nc:=hT 4 v4 rfl (by kernel_rfl)
       obtain rfl:v5 = .pointer (some ⟨nb,1,none⟩):=hT 5 v5 rfl (by kernel_rfl)
       obtain rfl:v6 = .int .i64 n1:=hT 6 v6 rfl (by kernel_rfl)
       obtain rfl:v7 = .pointer (some ⟨wr.heap.size,3,none⟩):=hT 7 v7 rfl (by kernel_rfl)
       obtain rfl:v8 = .slice (some ⟨b8,o8,none⟩) 3 xc:=hT 8 v8 rfl (by kernel_rfl)
       obtain rfl:v9 = .pointer (some ⟨b8,o8+8,none⟩):=hT 9 v9 rfl (by kernel_rfl)
       obtain rfl:v10 = .pointer (some ⟨b8,o8+10,none⟩):=hT 10 v10 rfl (by kernel_rfl)
       obtain rfl:v11 = .string sd:=hT 11 v11 rfl (by kernel_rfl)
       obtain rfl:v12 = .agg #[.int .i64 n0,.int .i64 n1,.string sd]:=hT 12 v12 rfl (by kernel_rfl)
       have t14:=Lib.hid (hT 14 v14 rfl (by kernel_rfl))
       clear hT
       have hoL1:=opIs hoL (p:=.assign (.tmp 54)) (by kernel_rfl)
       have hgL:=guardIs hoL (p:=none) (by kernel_rfl)
       have hdL:oL.dst=some 4:=by have:=(show ((regOf Tryz.f69 10)[15]?).map (·.dst)=some (some 4) by kernel_rfl); rw [hoL] at this; simpa using this
       rw [if_pos (wanted_free hgL)]
       rw [hdL] at hKL
       simp only [puts,Act.put,List.setIfInBounds_toArray,List.set_cons_succ,List.set_cons_zero] at hKL ⊢
       obtain⟨hC9,-⟩:=hCw9
       obtain⟨a3,c3,e11,hown⟩:=t14.out
       subst e11
       obtain⟨hB9,hS9,-,-⟩:=hC9
       unfold Oper.wp
       rw [show (execOp _ oL).run Tryz.prog w9 = .ok (.value (.slice a3 (l3.length+1) c3)) w9 by unfold execOp; simp only [hoL1]; simp [go_sem]]
       show KL (Act.put _ oL.dst (.slice a3 (l3.length+1) c3)) _
       rw [hdL]
       refine hKL _ _ ?_
       obtain⟨l4,hl4⟩:∃ l4,l4=l3++[⟨n0,n1,sd⟩]:=⟨_,rfl⟩
       have hll:l3.length+1=l4.length:=by rw [hl4]; simp
       rw [← hl4] at hown
       rw [hll] at hown ⊢
       have HO10:=Lib.hid hown
       have HB10:=Lib.hid hB9
       have HL4:=Lib.hid hl4
       clear hown t14 hKL hoL hoL1 hgL hdL hallL hB9 hS9 hll hl4 HOz HBz HXz HOL hn0 hn1 hc10 hnb hb8
       go_wp2_with fail
       have hjn9:=HJN.out
       go_roundg (l.length - (j+1))
       case rel=>exact⟨j+1,a3,c3,l4,hjn9,rfl,by go_num,rfl,Lib.hid (by rw [HL4.out,← HLT.out,HRC.out]),HG3,HO10,HB10⟩
       case measure=>omega
      ·have HZ9:=Lib.hid (HFS.out (by rw [HREC.out,decide_eq_false hk2]))
       have hkb:(G2.k != 2)=true:=by simpa using hk2
       generalize G2.k=g2 at *
       clear HREC HFS HG2 hk2 hnums HOz HXz hnm hnum0 hnum1 m9 m10 m11 hl3 HALX hxc hx0 hx2 HRC
       go_wp2_with fail
       go_ret2
       exact⟨HBW.out,.inl ⟨HZ9.out,_,_,_,rfl⟩⟩
     ·have HZ9:=Lib.hid (HFS.out (by unfold recAllB; rw [decide_eq_false_iff_not]; intro h; exact hl3 h.2.1))
      have hxl:((xl.length:Int) != 3)=true:=by simp; omega
      clear hl3 HFS HG2 HOz hnums hnm HXz HALX hxc hx0 hx2
      go_wp2_with fail
      go_ret2
      exact⟨HBW.out,.inl ⟨HZ9.out,_,_,_,rfl⟩⟩
   ·obtain rfl:j=l.length:=by omega
    have hG9:=HG.out
    rw [List.take_length] at hG9
    have hL9:l3=l.map recCut:=by rw [HL3.out,List.take_length]
    have HL9:=Lib.hid hL9
    have HLEN:Hid (l3.length=(l.map recCut).length):=Lib.hid (by rw [← hL9])
    have HBW:=Lib.hid (HB0.out.trans (Below.lower hB.out HB0.out.size))
    have hs0:=HS0.out
    clear hL9
    obtain rfl:b=true:=by rw [HV.out]; exact List.all_eq_true.2 hG9
    clear hG9 HG
    go_wp2_with fail
    go_ret2
    refine⟨HBW.out,.inr ⟨rfl,va,vc,?_,?_⟩⟩
    ·rw [← HLEN.out]; rfl
    ·rw [← HL9.out]; exact own_base hO.out (by omega)
 ·have hk2:(k != 3)=true:=by simpa using hk
  obtain rfl:b=false:=by rw [hb.out,decide_eq_false hk,Bool.false_and]
  go_wp2_with fail
  go_ret2
  exact⟨HB0.out,.inl ⟨rfl,_,_,_,rfl⟩⟩
end Go.Proofs.YtlpgbmaoenncjaaGreatDoor

namespace Go.Proofs.YtlpgbmaoenncjaaGreatDoor
open Go.RowKit
set_option linter.unusedVariables false
def wgbT (BX b of nb nc:Nat) (vn:Int) (vt:ByteArray) (vc:Nat) (m0 m1 m2 m3:Int) (S4:ByteArray) (ra:Option Addr) (rn rc:Nat) (va:Option Addr) (vm vcc:Nat) (w1:World):Nat→Value→World→Prop
 | 0,v,w=>v = .slice (some ⟨nb,0,none⟩) 4 nc
 | 1,v,w=>v = .pointer (some ⟨nb,0,none⟩)
 | 2,v,w=>v = .int .i64 m0
 | 3,v,w=>v = .slice (some ⟨nb,0,none⟩) 4 nc
 | 4,v,w=>v = .pointer (some ⟨nb,1,none⟩)
 | 5,v,w=>v = .int .i64 m1
 | 6,v,w=>v = .slice (some ⟨nb,0,none⟩) 4 nc
 | 7,v,w=>v = .pointer (some ⟨nb,2,none⟩)
 | 8,v,w=>v = .int .i64 m2
 | 9,v,w=>v = .slice (some ⟨nb,0,none⟩) 4 nc
 | 10,v,w=>v = .pointer (some ⟨nb,3,none⟩)
 | 11,v,w=>v = .int .i64 m3
 | 12,v,w=>v = .slice ra rn rc
 | 13,v,w=>v = .agg #[.int .i64 m2,.int .i64 m3,.slice ra rn rc]
 | 14,v,w=>v = .pointer (some ⟨BX,3,none⟩)
 | 15,v,w=>v = .slice (some ⟨b,of,none⟩) 7 vc
 | 16,v,w=>v = .pointer (some ⟨b,of+16,none⟩)
 | 17,v,w=>v = .pointer (some ⟨b,of+18,none⟩)
 | 18,v,w=>v = .string S4
 | 19,v,w=>v = .slice va vm vcc
 | 20,v,w=>v = .agg #[.int .i64 m0,.int .i64 m1,.int .i64 m2,.int .i64 m3,.slice ra rn rc,.string S4,.slice va vm vcc]
 | 21,v,w=>∃ c,v = .pointer (some ⟨c,0,none⟩)∧w1.heap.size≤c∧w.heap[c]? = some (.cells #[.int .i64 0,.int .i64 0,.int .i64 0,.int .i64 0,.slice none 0 0,.string ⟨#[]⟩,.slice none 0 0] 42 (0,0))
 | _,_,_=>True
def wgbD:Nat→List Nat
 | _=>[]
theorem wgb_keep (BX b of nb nc:Nat) (vn:Int) (vt:ByteArray) (vc:Nat) (m0 m1 m2 m3:Int) (S4:ByteArray) (ra:Option Addr) (rn rc:Nat) (va:Option Addr) (vm vcc:Nat) (w1:World):∀ (j:Nat) (u:Value) (w w':World),Below w.heap.size w w'→(wgbT BX b of nb nc vn vt vc m0 m1 m2 m3 S4 ra rn rc va vm vcc w1) j u w→(wgbT BX b of nb nc vn vt vc m0 m1 m2 m3 S4 ra rn rc va vm vcc w1) j u w'
 | 21,u,w,w',hb,h=>by obtain⟨c,rfl,h0,h1⟩:=h; exact⟨c,rfl,h0,(hb.block _ (lt_of_block h1)).trans h1⟩
 | 0,u,w,w',hb,h=>h
 | 1,u,w,w',hb,h=>h
 | 2,u,w,w',hb,h=>h
 | 3,u,w,w',hb,h=>h
 | 4,u,w,w',hb,h=>h
 | 5,u,w,w',hb,h=>h
 | 6,u,w,w',hb,h=>h
 | 7,u,w,w',hb,h=>h
 | 8,u,w,w',hb,h=>h
 | 9,u,w,w',hb,h=>h
 | 10,u,w,w',hb,h=>h
 | 11,u,w,w',hb,h=>h
 | 12,u,w,w',hb,h=>h
 | 13,u,w,w',hb,h=>h
 | 14,u,w,w',hb,h=>h
 | 15,u,w,w',hb,h=>h
 | 16,u,w,w',hb,h=>h
 | 17,u,w,w',hb,h=>h
 | 18,u,w,w',hb,h=>h
 | 19,u,w,w',hb,h=>h
 | 20,u,w,w',hb,h=>h
 | _+22,u,w,w',hb,h=>trivial
set_option maxHeartbeats 4000000 in
theorem wgb_steps (BX b of nb nc:Nat) (vn:Int) (vt:ByteArray) (vc:Nat) (m0 m1 m2 m3:Int) (S4:ByteArray) (ra:Option Addr) (rn rc:Nat) (va:Option Addr) (vm vcc:Nat) (w1:World) (hb3:b<w1.heap.size) (hBX:w1.heap[BX]? = some (.cells #[.int .i64 3,.int .i64 vn,.string vt,.slice (some ⟨b,of,none⟩) 7 vc] 70 (0,0))) (hnb:nb<w1.heap.size) (hm0:w1.cell? ⟨nb,0,none⟩=some (.int .i64 m0)) (hm1:w1.cell? ⟨nb,1,none⟩=some (.int .i64 m1)) (hm2:w1.cell? ⟨nb,2,none⟩=some (.int .i64 m2)) (hm3:w1.cell? ⟨nb,3,none⟩=some (.int .i64 m3)) (hs4:w1.cell? ⟨b,of+18,none⟩=some (.string S4)) {a:Act}(hs:a.tmps.size=109) (b7:a.eval (.tmp 7) = .slice (some ⟨nb,0,none⟩) 4 nc) (b10:a.eval (.tmp 10) = .slice ra rn rc) (b9:a.eval (.tmp 9) = .slice va vm vcc) (b4:a.eval (.tmp 4) = .pointer (some ⟨BX,0,none⟩)):∀ i o,i<22→(regOf Tryz.f26 9)[i]? = some o→StepOk Tryz.prog (regOf Tryz.f26 9) a (fun w=>Below w1.heap.size w1 w) (wgbT BX b of nb nc vn vt vc m0 m1 m2 m3 S4 ra rn rc va vm vcc w1) wgbD i o:=by
 have hz:∀ t,Nat.blt t 109=true→Nat.blt t a.tmps.size=true:=fun t h=>by rw [hs]; exact h
 have hsz:(regOf Tryz.f26 9).size=23:=by kernel_rfl
 intro i o hii ho
 match i,hii with
 | 0,_ =>
   have ho1:=opIs ho (p:=.move (.tmp 7)) (by kernel_rfl)
   have hg:=guardIs ho (p:=none) (by kernel_rfl)
   intro e A w hA hC hp K hk
   have x7:A.eval (.tmp 7) = .slice (some ⟨nb,0,none⟩) 4 nc:=filled_base hA (by kernel_rfl) b7
   have hw:Region.wanted o (yielded (regOf Tryz.f26 9) A.tmps)=true:=wanted_free hg
   exact step_pure hk hC hw (run_move ho1 x7 w) rfl
 | 1,_ =>
   have ho1:=opIs ho (p:=.indexAddr 23 (.tmp 75) (.const (.int .i64 0))) (by kernel_rfl)
   have hg:=guardIs ho (p:=none) (by kernel_rfl)
   intro e A w hA hC hp K hk
   have x75:A.eval (.tmp 75) = .slice (some ⟨nb,0,none⟩) 4 nc:=op_tmp hA hp 75 0 (by kernel_rfl) (by kernel_rfl) (by kernel_rfl) (hz _ rfl)
   have hw:Region.wanted o (yielded (regOf Tryz.f26 9) A.tmps)=true:=wanted_free hg
   refine step_pure (v:=.pointer (some ⟨nb,0,none⟩)) hk hC hw ?_ rfl
   unfold execOp
   simp only [ho1]
   have xc:∀ v,A.eval (.const v)=v:=fun _=>rfl
   generalize A.eval=ρ at x75 xc ⊢
   simp [go_sem,x75,xc]
 | 2,_ =>
   have ho1:=opIs ho (p:=.load 3 (.tmp 76)) (by kernel_rfl)
   have hg:=guardIs ho (p:=none) (by kernel_rfl)
   intro e A w hA hC hp K hk
   have x76:A.eval (.tmp 76) = .pointer (some ⟨nb,0,none⟩):=op_tmp hA hp 76 1 (by kernel_rfl) (by kernel_rfl) (by kernel_rfl) (hz _ rfl)
   have hw:Region.wanted o (yielded (regOf Tryz.f26 9) A.tmps)=true:=wanted_free hg
   have e0:=(World.cell?_of_block (a:=⟨nb,0,none⟩) (hC.block nb hnb)).trans hm0
   refine step_pure (v:=.int .i64 m0) hk hC hw ?_ rfl
   unfold execOp
   simp only [ho1]
   skip
   generalize A.eval=ρ at x76 ⊢
   simp [go_sem,x76,e0]
 | 3,_ =>
   have ho1:=opIs ho (p:=.move (.tmp 7)) (by kernel_rfl)
   have hg:=guardIs ho (p:=none) (by kernel_rfl)
   intro e A w hA hC hp K hk
   have x7:A.eval (.tmp 7) = .slice (some ⟨nb,0,none⟩) 4 nc:=filled_base hA (by kernel_rfl) b7
   have hw:Region.wanted o (yielded (regOf Tryz.f26 9) A.tmps)=true:=wanted_free hg
   exact step_pure hk hC hw (run_move ho1 x7 w) rfl
 | 4,_ =>
   have ho1:=opIs ho (p:=.indexAddr 23 (.tmp 78) (.const (.int .i64 1))) (by kernel_rfl)
   have hg:=guardIs ho (p:=none) (by kernel_rfl)
   intro e A w hA hC hp K hk
   have x78:A.eval (.tmp 78) = .slice (some ⟨nb,0,none⟩) 4 nc:=op_tmp hA hp 78 3 (by kernel_rfl) (by kernel_rfl) (by kernel_rfl) (hz _ rfl)
   have hw:Region.wanted o (yielded (regOf Tryz.f26 9) A.tmps)=true:=wanted_free hg
   refine step_pure (v:=.pointer (some ⟨nb,1,none⟩)) hk hC hw ?_ rfl
   unfold execOp
   simp only [ho1]
   have xc:∀ v,A.eval (.const v)=v:=fun _=>rfl
   generalize A.eval=ρ at x78 xc ⊢
   simp [go_sem,x78,xc]
 | 5,_ =>
   have ho1:=opIs ho (p:=.load 3 (.tmp 79)) (by kernel_rfl)
   have hg:=guardIs ho (p:=none) (by kernel_rfl)
   intro e A w hA hC hp K hk
   have x79:A.eval (.tmp 79) = .pointer (some ⟨nb,1,none⟩):=op_tmp hA hp 79 4 (by kernel_rfl) (by kernel_rfl) (by kernel_rfl) (hz _ rfl)
   have hw:Region.wanted o (yielded (regOf Tryz.f26 9) A.tmps)=true:=wanted_free hg
   have e0:=(World.cell?_of_block (a:=⟨nb,1,none⟩) (hC.block nb hnb)).trans hm1
   refine step_pure (v:=.int .i64 m1) hk hC hw ?_ rfl
   unfold execOp
   simp only [ho1]
   skip
   generalize A.eval=ρ at x79 ⊢
   simp [go_sem,x79,e0]
 | 6,_ =>
   have ho1:=opIs ho (p:=.move (.tmp 7)) (by kernel_rfl)
   have hg:=guardIs ho (p:=none) (by kernel_rfl)
   intro e A w hA hC hp K hk
   have x7:A.eval (.tmp 7) = .slice (some ⟨nb,0,none⟩) 4 nc:=filled_base hA (by kernel_rfl) b7
   have hw:Region.wanted o (yielded (regOf Tryz.f26 9) A.tmps)=true:=wanted_free hg
   exact step_pure hk hC hw (run_move ho1 x7 w) rfl
 | 7,_ =>
   have ho1:=opIs ho (p:=.indexAddr 23 (.tmp 81) (.const (.int .i64 2))) (by kernel_rfl)
   have hg:=guardIs ho (p:=none) (by kernel_rfl)
   intro e A w hA hC hp K hk
   have x81:A.eval (.tmp 81) = .slice (some ⟨nb,0,none⟩) 4 nc:=op_tmp hA hp 81 6 (by kernel_rfl) (by kernel_rfl) (by kernel_rfl) (hz _ rfl)
   have hw:Region.wanted o (yielded (regOf Tryz.f26 9) A.tmps)=true:=wanted_free hg
   refine step_pure (v:=.pointer (some ⟨nb,2,none⟩)) hk hC hw ?_ rfl
   unfold execOp
   simp only [ho1]
   have xc:∀ v,A.eval (.const v)=v:=fun _=>rfl
   generalize A.eval=ρ at x81 xc ⊢
   simp [go_sem,x81,xc]
 | 8,_ =>
   have ho1:=opIs ho (p:=.load 3 (.tmp 82)) (by kernel_rfl)
   have hg:=guardIs ho (p:=none) (by kernel_rfl)
   intro e A w hA hC hp K hk
   have x82:A.eval (.tmp 82) = .pointer (some ⟨nb,2,none⟩):=op_tmp hA hp 82 7 (by kernel_rfl) (by kernel_rfl) (by kernel_rfl) (hz _ rfl)
   have hw:Region.wanted o (yielded (regOf Tryz.f26 9) A.tmps)=true:=wanted_free hg
   have e0:=(World.cell?_of_block (a:=⟨nb,2,none⟩) (hC.block nb hnb)).trans hm2
   refine step_pure (v:=.int .i64 m2) hk hC hw ?_ rfl
   unfold execOp
   simp only [ho1]
   skip
   generalize A.eval=ρ at x82 ⊢
   simp [go_sem,x82,e0]
 | 9,_ =>
   have ho1:=opIs ho (p:=.move (.tmp 7)) (by kernel_rfl)
   have hg:=guardIs ho (p:=none) (by kernel_rfl)
   intro e A w hA hC hp K hk
   have x7:A.eval (.tmp 7) = .slice (some ⟨nb,0,none⟩) 4 nc:=filled_base hA (by kernel_rfl) b7
   have hw:Region.wanted o (yielded (regOf Tryz.f26 9) A.tmps)=true:=wanted_free hg
   exact step_pure hk hC hw (run_move ho1 x7 w) rfl
 | 10,_ =>
   have ho1:=opIs ho (p:=.indexAddr 23 (.tmp 84) (.const (.int .i64 3))) (by kernel_rfl)
   have hg:=guardIs ho (p:=none) (by kernel_rfl)
   intro e A w hA hC hp K hk
   have x84:A.eval (.tmp 84) = .slice (some ⟨nb,0,none⟩) 4 nc:=op_tmp hA hp 84 9 (by kernel_rfl) (by kernel_rfl) (by kernel_rfl) (hz _ rfl)
   have hw:Region.wanted o (yielded (regOf Tryz.f26 9) A.tmps)=true:=wanted_free hg
   refine step_pure (v:=.pointer (some ⟨nb,3,none⟩)) hk hC hw ?_ rfl
   unfold execOp
   simp only [ho1]
   have xc:∀ v,A.eval (.const v)=v:=fun _=>rfl
   generalize A.eval=ρ at x84 xc ⊢
   simp [go_sem,x84,xc]
 | 11,_ =>
   have ho1:=opIs ho (p:=.load 3 (.tmp 85)) (by kernel_rfl)
   have hg:=guardIs ho (p:=none) (by kernel_rfl)
   intro e A w hA hC hp K hk
   have x85:A.eval (.tmp 85) = .pointer (some ⟨nb,3,none⟩):=op_tmp hA hp 85 10 (by kernel_rfl) (by kernel_rfl) (by kernel_rfl) (hz _ rfl)
   have hw:Region.wanted o (yielded (regOf Tryz.f26 9) A.tmps)=true:=wanted_free hg
   have e0:=(World.cell?_of_block (a:=⟨nb,3,none⟩) (hC.block nb hnb)).trans hm3
   refine step_pure (v:=.int .i64 m3) hk hC hw ?_ rfl
   unfold execOp
   simp only [ho1]
   skip
   generalize A.eval=ρ at x85 ⊢
   simp [go_sem,x85,e0]
 | 12,_ =>
   have ho1:=opIs ho (p:=.move (.tmp 10)) (by kernel_rfl)
   have hg:=guardIs ho (p:=none) (by kernel_rfl)
   intro e A w hA hC hp K hk
   have x10:A.eval (.tmp 10) = .slice ra rn rc:=filled_base hA (by kernel_rfl) b10
   have hw:Region.wanted o (yielded (regOf Tryz.f26 9) A.tmps)=true:=wanted_free hg
   exact step_pure hk hC hw (run_move ho1 x10 w) rfl
 | 13,_ =>
   have ho1:=opIs ho (p:=.build 40 #[(0,(.tmp 83)),(1,(.tmp 86)),(2,(.tmp 87))]) (by kernel_rfl)
   have hg:=guardIs ho (p:=none) (by kernel_rfl)
   intro e A w hA hC hp K hk
   have x83:A.eval (.tmp 83) = .int .i64 m2:=op_tmp hA hp 83 8 (by kernel_rfl) (by kernel_rfl) (by kernel_rfl) (hz _ rfl)
   have x86:A.eval (.tmp 86) = .int .i64 m3:=op_tmp hA hp 86 11 (by kernel_rfl) (by kernel_rfl) (by kernel_rfl) (hz _ rfl)
   have x87:A.eval (.tmp 87) = .slice ra rn rc:=op_tmp hA hp 87 12 (by kernel_rfl) (by kernel_rfl) (by kernel_rfl) (hz _ rfl)
   have hw:Region.wanted o (yielded (regOf Tryz.f26 9) A.tmps)=true:=wanted_free hg
   refine step_pure (v:=.agg #[.int .i64 m2,.int .i64 m3,.slice ra rn rc]) hk hC hw ?_ rfl
   unfold execOp
   simp only [ho1]
   generalize A.eval=ρ at x83 x86 x87 ⊢
   simp [go_sem,x83,x86,x87]
 | 14,_ =>
   have ho1:=opIs ho (p:=.fieldAddr 70 (.tmp 4) 3) (by kernel_rfl)
   have hg:=guardIs ho (p:=none) (by kernel_rfl)
   intro e A w hA hC hp K hk
   have x4:A.eval (.tmp 4) = .pointer (some ⟨BX,0,none⟩):=filled_base hA (by kernel_rfl) b4
   have hw:Region.wanted o (yielded (regOf Tryz.f26 9) A.tmps)=true:=wanted_free hg
   refine step_pure (v:=.pointer (some ⟨BX,3,none⟩)) hk hC hw ?_ rfl
   unfold execOp
   simp only [ho1]
   generalize A.eval=ρ at x4 ⊢
   simp [go_sem,x4]
 | 15,_ =>
   have ho1:=opIs ho (p:=.load 68 (.tmp 89)) (by kernel_rfl)
   have hg:=guardIs ho (p:=none) (by kernel_rfl)
   intro e A w hA hC hp K hk
   have x89:A.eval (.tmp 89) = .pointer (some ⟨BX,3,none⟩):=op_tmp hA hp 89 14 (by kernel_rfl) (by kernel_rfl) (by kernel_rfl) (hz _ rfl)
   have hw:Region.wanted o (yielded (regOf Tryz.f26 9) A.tmps)=true:=wanted_free hg
   have e1:=Blk.cell (j:=3) ((hC.block BX (lt_of_block hBX)).trans hBX) rfl
   refine step_pure (v:=.slice (some ⟨b,of,none⟩) 7 vc) hk hC hw ?_ rfl
   unfold execOp
   simp only [ho1]
   skip
   generalize A.eval=ρ at x89 ⊢
   simp [go_sem,x89,e1]
 | 16,_ =>
   have ho1:=opIs ho (p:=.indexAddr 68 (.tmp 90) (.const (.int .i64 4))) (by kernel_rfl)
   have hg:=guardIs ho (p:=none) (by kernel_rfl)
   intro e A w hA hC hp K hk
   have x90:A.eval (.tmp 90) = .slice (some ⟨b,of,none⟩) 7 vc:=op_tmp hA hp 90 15 (by kernel_rfl) (by kernel_rfl) (by kernel_rfl) (hz _ rfl)
   have hw:Region.wanted o (yielded (regOf Tryz.f26 9) A.tmps)=true:=wanted_free hg
   refine step_pure (v:=.pointer (some ⟨b,of+16,none⟩)) hk hC hw ?_ rfl
   unfold execOp
   simp only [ho1]
   have xc:∀ v,A.eval (.const v)=v:=fun _=>rfl
   generalize A.eval=ρ at x90 xc ⊢
   simp [go_sem,x90,xc]
 | 17,_ =>
   have ho1:=opIs ho (p:=.fieldAddr 70 (.tmp 91) 2) (by kernel_rfl)
   have hg:=guardIs ho (p:=none) (by kernel_rfl)
   intro e A w hA hC hp K hk
   have x91:A.eval (.tmp 91) = .pointer (some ⟨b,of+16,none⟩):=op_tmp hA hp 91 16 (by kernel_rfl) (by kernel_rfl) (by kernel_rfl) (hz _ rfl)
   have hw:Region.wanted o (yielded (regOf Tryz.f26 9) A.tmps)=true:=wanted_free hg
   refine step_pure (v:=.pointer (some ⟨b,of+18,none⟩)) hk hC hw ?_ rfl
   unfold execOp
   simp only [ho1]
   generalize A.eval=ρ at x91 ⊢
   simp [go_sem,x91]
 | 18,_ =>
   have ho1:=opIs ho (p:=.load 9 (.tmp 92)) (by kernel_rfl)
   have hg:=guardIs ho (p:=none) (by kernel_rfl)
   intro e A w hA hC hp K hk
   have x92:A.eval (.tmp 92) = .pointer (some ⟨b,of+18,none⟩):=op_tmp hA hp 92 17 (by kernel_rfl) (by kernel_rfl) (by kernel_rfl) (hz _ rfl)
   have hw:Region.wanted o (yielded (regOf Tryz.f26 9) A.tmps)=true:=wanted_free hg
   have e0:=(World.cell?_of_block (a:=⟨b,of+18,none⟩) (hC.block b hb3)).trans hs4
   refine step_pure (v:=.string S4) hk hC hw ?_ rfl
   unfold execOp
   simp only [ho1]
   skip
   generalize A.eval=ρ at x92 ⊢
   simp [go_sem,x92,e0]
 | 19,_ =>
   have ho1:=opIs ho (p:=.move (.tmp 9)) (by kernel_rfl)
   have hg:=guardIs ho (p:=none) (by kernel_rfl)
   intro e A w hA hC hp K hk
   have x9:A.eval (.tmp 9) = .slice va vm vcc:=filled_base hA (by kernel_rfl) b9
   have hw:Region.wanted o (yielded (regOf Tryz.f26 9) A.tmps)=true:=wanted_free hg
   exact step_pure hk hC hw (run_move ho1 x9 w) rfl
 | 20,_ =>
   have ho1:=opIs ho (p:=.build 42 #[(0,(.tmp 77)),(1,(.tmp 80)),(2,(.tmp 88)),(3,(.tmp 93)),(4,(.tmp 94))]) (by kernel_rfl)
   have hg:=guardIs ho (p:=none) (by kernel_rfl)
   intro e A w hA hC hp K hk
   have x77:A.eval (.tmp 77) = .int .i64 m0:=op_tmp hA hp 77 2 (by kernel_rfl) (by kernel_rfl) (by kernel_rfl) (hz _ rfl)
   have x80:A.eval (.tmp 80) = .int .i64 m1:=op_tmp hA hp 80 5 (by kernel_rfl) (by kernel_rfl) (by kernel_rfl) (hz _ rfl)
   have x88:A.eval (.tmp 88) = .agg #[.int .i64 m2,.int .i64 m3,.slice ra rn rc]:=op_tmp hA hp 88 13 (by kernel_rfl) (by kernel_rfl) (by kernel_rfl) (hz _ rfl)
   have x93:A.eval (.tmp 93) = .string S4:=op_tmp hA hp 93 18 (by kernel_rfl) (by kernel_rfl) (by kernel_rfl) (hz _ rfl)
   have x94:A.eval (.tmp 94) = .slice va vm vcc:=op_tmp hA hp 94 19 (by kernel_rfl) (by kernel_rfl) (by kernel_rfl) (hz _ rfl)
   have hw:Region.wanted o (yielded (regOf Tryz.f26 9) A.tmps)=true:=wanted_free hg
   refine step_pure (v:=.agg #[.int .i64 m0,.int .i64 m1,.int .i64 m2,.int .i64 m3,.slice ra rn rc,.string S4,.slice va vm vcc]) hk hC hw ?_ rfl
   unfold execOp
   simp only [ho1]
   generalize A.eval=ρ at x77 x80 x88 x93 x94 ⊢
   simp [go_sem,x77,x80,x88,x93,x94]
 | 21,_ =>
   have ho1:=opIs ho (p:=.alloc 42) (by kernel_rfl)
   have hg:=guardIs ho (p:=none) (by kernel_rfl)
   intro e A w hA hC hp K hk
   have hw:Region.wanted o (yielded (regOf Tryz.f26 9) A.tmps)=true:=wanted_free hg
   refine step_value (v:=.pointer (some ⟨w.heap.size,0,none⟩)) (w':=w.alloc (.cells #[.int .i64 0,.int .i64 0,.int .i64 0,.int .i64 0,.slice none 0 0,.string ⟨#[]⟩,.slice none 0 0] 42)) hk hw ?_ ?_ ?_ ?_
   ·unfold execOp
    simp only [ho1]
    simp [go_sem]
   ·exact⟨w.heap.size,rfl,hC.size,heap_alloc_new w _⟩
   ·exact hC.alloc hC.size _
   ·intro j u _ _ _ _ h
    exact wgb_keep BX b of nb nc vn vt vc m0 m1 m2 m3 S4 ra rn rc va vm vcc w1 j u w _ ((Below.refl _ w).alloc (Nat.le_refl _) _) h
 | _+22,h=>exact absurd h (by omega)
def wgnT (BX b of:Nat) (vn:Int) (vt:ByteArray) (vc:Nat) (ek en:Int) (es:ByteArray) (ea:Option Addr) (el:List V) (ec:Nat) (B:Bool) (w1:World):Nat→Value→World→Prop
 | 0,v,w=>v = .pointer (some ⟨BX,3,none⟩)
 | 1,v,w=>v = .slice (some ⟨b,of,none⟩) 7 vc
 | 2,v,w=>v = .pointer (some ⟨b,of+20,none⟩)
 | 3,v,w=>v = .agg #[.int .i64 ek,.int .i64 en,.string es,.slice ea el.length ec]
 | 4,v,w=>v = .pointer (some ⟨BX,3,none⟩)
 | 5,v,w=>v = .slice (some ⟨b,of,none⟩) 7 vc
 | 6,v,w=>v = .pointer (some ⟨b,of+20,none⟩)
 | 7,v,w=>v = .pointer (some ⟨b,of+23,none⟩)
 | 8,v,w=>v = .slice ea el.length ec
 | 9,v,w=>v = .int .i64 (el.length:Int)
 | 10,v,w=>∃ a n c,v = .tuple #[.slice a n c,.bool B]∧(B=true→n=(el.map (fun x=>cl x.n)).length∧w.ownsRow w1.heap.size 3 1 (.slice a n c) n (i64s (el.map (fun x=>cl x.n))))
 | 11,v,w=>∃ a n c,v = .tuple #[.slice a n c,.bool B]∧(B=true→n=(el.map (fun x=>cl x.n)).length∧w.ownsRow w1.heap.size 3 1 (.slice a n c) n (i64s (el.map (fun x=>cl x.n))))
 | 12,v,w=>∃ a n c,v = .slice a n c∧(B=true→n=(el.map (fun x=>cl x.n)).length∧w.ownsRow w1.heap.size 3 1 (.slice a n c) n (i64s (el.map (fun x=>cl x.n))))
 | 13,v,w=>v = .bool B
 | 14,v,w=>∃ a n c,v = .slice a n c∧(B=true→n=(el.map (fun x=>cl x.n)).length∧w.ownsRow w1.heap.size 3 1 (.slice a n c) n (i64s (el.map (fun x=>cl x.n))))
 | 15,v,w=>v = .bool B
 | _,_,_=>True
def wgnD:Nat→List Nat
 | _=>[]
theorem wgn_keep (BX b of:Nat) (vn:Int) (vt:ByteArray) (vc:Nat) (ek en:Int) (es:ByteArray) (ea:Option Addr) (el:List V) (ec:Nat) (B:Bool) (w1:World):∀ (j:Nat) (u:Value) (w w':World),Below w.heap.size w w'→(wgnT BX b of vn vt vc ek en es ea el ec B w1) j u w→(wgnT BX b of vn vt vc ek en es ea el ec B w1) j u w'
 | 10,u,w,w',hb,h=>by obtain⟨a,n,c,rfl,h1⟩:=h; exact⟨a,n,c,rfl,fun hB=>⟨(h1 hB).1,own_under (h1 hB).2 hb⟩⟩
 | 11,u,w,w',hb,h=>by obtain⟨a,n,c,rfl,h1⟩:=h; exact⟨a,n,c,rfl,fun hB=>⟨(h1 hB).1,own_under (h1 hB).2 hb⟩⟩
 | 12,u,w,w',hb,h=>by obtain⟨a,n,c,rfl,h1⟩:=h; exact⟨a,n,c,rfl,fun hB=>⟨(h1 hB).1,own_under (h1 hB).2 hb⟩⟩
 | 14,u,w,w',hb,h=>by obtain⟨a,n,c,rfl,h1⟩:=h; exact⟨a,n,c,rfl,fun hB=>⟨(h1 hB).1,own_under (h1 hB).2 hb⟩⟩
 | 0,u,w,w',hb,h=>h
 | 1,u,w,w',hb,h=>h
 | 2,u,w,w',hb,h=>h
 | 3,u,w,w',hb,h=>h
 | 4,u,w,w',hb,h=>h
 | 5,u,w,w',hb,h=>h
 | 6,u,w,w',hb,h=>h
 | 7,u,w,w',hb,h=>h
 | 8,u,w,w',hb,h=>h
 | 9,u,w,w',hb,h=>h
 | 13,u,w,w',hb,h=>h
 | 15,u,w,w',hb,h=>h
 | _+16,u,w,w',hb,h=>trivial
set_option maxHeartbeats 4000000 in
theorem wgn_steps (BX b of:Nat) (vn:Int) (vt:ByteArray) (vc:Nat) (ek en:Int) (es:ByteArray) (ea:Option Addr) (el:List V) (ec:Nat) (B:Bool) (w1:World) (hb3:b<w1.heap.size) (hBX:w1.heap[BX]? = some (.cells #[.int .i64 3,.int .i64 vn,.string vt,.slice (some ⟨b,of,none⟩) 7 vc] 70 (0,0))) (hc0:w1.cell? ⟨b,of+20,none⟩=some (.int .i64 ek)) (hc1:w1.cell? ⟨b,of+21,none⟩=some (.int .i64 en)) (hc2:w1.cell? ⟨b,of+22,none⟩=some (.string es)) (hc3:w1.cell? ⟨b,of+23,none⟩=some (.slice ea el.length ec)) (hcall:∀ w,Below w1.heap.size w1 w→Calls Tryz.prog 68 #[.agg #[.int .i64 ek,.int .i64 en,.string es,.slice ea el.length ec],.int .i64 (el.length:Int)] w (NumsP w B (el.map (fun x=>cl x.n)))) {a:Act}(hs:a.tmps.size=109) (b4:a.eval (.tmp 4) = .pointer (some ⟨BX,0,none⟩)):∀ i o,(regOf Tryz.f26 7)[i]? = some o→StepOk Tryz.prog (regOf Tryz.f26 7) a (fun w=>Below w1.heap.size w1 w) (wgnT BX b of vn vt vc ek en es ea el ec B w1) wgnD i o:=by
 have hz:∀ t,Nat.blt t 109=true→Nat.blt t a.tmps.size=true:=fun t h=>by rw [hs]; exact h
 have hsz:(regOf Tryz.f26 7).size=16:=by kernel_rfl
 refine of_index 16 hsz ?_
 intro i hii o ho
 match i,hii with
 | 0,_ =>
   have ho1:=opIs ho (p:=.fieldAddr 70 (.tmp 4) 3) (by kernel_rfl)
   have hg:=guardIs ho (p:=none) (by kernel_rfl)
   intro e A w hA hC hp K hk
   have x4:A.eval (.tmp 4) = .pointer (some ⟨BX,0,none⟩):=filled_base hA (by kernel_rfl) b4
   have hw:Region.wanted o (yielded (regOf Tryz.f26 7) A.tmps)=true:=wanted_free hg
   refine step_pure (v:=.pointer (some ⟨BX,3,none⟩)) hk hC hw ?_ rfl
   unfold execOp
   simp only [ho1]
   generalize A.eval=ρ at x4 ⊢
   simp [go_sem,x4]
 | 1,_ =>
   have ho1:=opIs ho (p:=.load 68 (.tmp 54)) (by kernel_rfl)
   have hg:=guardIs ho (p:=none) (by kernel_rfl)
   intro e A w hA hC hp K hk
   have x54:A.eval (.tmp 54) = .pointer (some ⟨BX,3,none⟩):=op_tmp hA hp 54 0 (by kernel_rfl) (by kernel_rfl) (by kernel_rfl) (hz _ rfl)
   have hw:Region.wanted o (yielded (regOf Tryz.f26 7) A.tmps)=true:=wanted_free hg
   have e1:=Blk.cell (j:=3) ((hC.block BX (lt_of_block hBX)).trans hBX) rfl
   refine step_pure (v:=.slice (some ⟨b,of,none⟩) 7 vc) hk hC hw ?_ rfl
   unfold execOp
   simp only [ho1]
   skip
   generalize A.eval=ρ at x54 ⊢
   simp [go_sem,x54,e1]
 | 2,_ =>
   have ho1:=opIs ho (p:=.indexAddr 68 (.tmp 55) (.const (.int .i64 5))) (by kernel_rfl)
   have hg:=guardIs ho (p:=none) (by kernel_rfl)
   intro e A w hA hC hp K hk
   have x55:A.eval (.tmp 55) = .slice (some ⟨b,of,none⟩) 7 vc:=op_tmp hA hp 55 1 (by kernel_rfl) (by kernel_rfl) (by kernel_rfl) (hz _ rfl)
   have hw:Region.wanted o (yielded (regOf Tryz.f26 7) A.tmps)=true:=wanted_free hg
   refine step_pure (v:=.pointer (some ⟨b,of+20,none⟩)) hk hC hw ?_ rfl
   unfold execOp
   simp only [ho1]
   have xc:∀ v,A.eval (.const v)=v:=fun _=>rfl
   generalize A.eval=ρ at x55 xc ⊢
   simp [go_sem,x55,xc]
 | 3,_ =>
   have ho1:=opIs ho (p:=.load 70 (.tmp 56)) (by kernel_rfl)
   have hg:=guardIs ho (p:=none) (by kernel_rfl)
   intro e A w hA hC hp K hk
   have x56:A.eval (.tmp 56) = .pointer (some ⟨b,of+20,none⟩):=op_tmp hA hp 56 2 (by kernel_rfl) (by kernel_rfl) (by kernel_rfl) (hz _ rfl)
   have hw:Region.wanted o (yielded (regOf Tryz.f26 7) A.tmps)=true:=wanted_free hg
   have e0:=(World.cell?_of_block (a:=⟨b,of+20,none⟩) (hC.block b hb3)).trans hc0
   have e1:=(World.cell?_of_block (a:=⟨b,of+21,none⟩) (hC.block b hb3)).trans hc1
   have e2:=(World.cell?_of_block (a:=⟨b,of+22,none⟩) (hC.block b hb3)).trans hc2
   have e3:=(World.cell?_of_block (a:=⟨b,of+23,none⟩) (hC.block b hb3)).trans hc3
   refine step_pure (v:=.agg #[.int .i64 ek,.int .i64 en,.string es,.slice ea el.length ec]) hk hC hw ?_ rfl
   unfold execOp
   simp only [ho1]
   skip
   generalize A.eval=ρ at x56 ⊢
   simp [go_sem,x56,e0,e1,e2,e3]
 | 4,_ =>
   have ho1:=opIs ho (p:=.fieldAddr 70 (.tmp 4) 3) (by kernel_rfl)
   have hg:=guardIs ho (p:=none) (by kernel_rfl)
   intro e A w hA hC hp K hk
   have x4:A.eval (.tmp 4) = .pointer (some ⟨BX,0,none⟩):=filled_base hA (by kernel_rfl) b4
   have hw:Region.wanted o (yielded (regOf Tryz.f26 7) A.tmps)=true:=wanted_free hg
   refine step_pure (v:=.pointer (some ⟨BX,3,none⟩)) hk hC hw ?_ rfl
   unfold execOp
   simp only [ho1]
   generalize A.eval=ρ at x4 ⊢
   simp [go_sem,x4]
 | 5,_ =>
   have ho1:=opIs ho (p:=.load 68 (.tmp 58)) (by kernel_rfl)
   have hg:=guardIs ho (p:=none) (by kernel_rfl)
   intro e A w hA hC hp K hk
   have x58:A.eval (.tmp 58) = .pointer (some ⟨BX,3,none⟩):=op_tmp hA hp 58 4 (by kernel_rfl) (by kernel_rfl) (by kernel_rfl) (hz _ rfl)
   have hw:Region.wanted o (yielded (regOf Tryz.f26 7) A.tmps)=true:=wanted_free hg
   have e1:=Blk.cell (j:=3) ((hC.block BX (lt_of_block hBX)).trans hBX) rfl
   refine step_pure (v:=.slice (some ⟨b,of,none⟩) 7 vc) hk hC hw ?_ rfl
   unfold execOp
   simp only [ho1]
   skip
   generalize A.eval=ρ at x58 ⊢
   simp [go_sem,x58,e1]
 | 6,_ =>
   have ho1:=opIs ho (p:=.indexAddr 68 (.tmp 59) (.const (.int .i64 5))) (by kernel_rfl)
   have hg:=guardIs ho (p:=none) (by kernel_rfl)
   intro e A w hA hC hp K hk
   have x59:A.eval (.tmp 59) = .slice (some ⟨b,of,none⟩) 7 vc:=op_tmp hA hp 59 5 (by kernel_rfl) (by kernel_rfl) (by kernel_rfl) (hz _ rfl)
   have hw:Region.wanted o (yielded (regOf Tryz.f26 7) A.tmps)=true:=wanted_free hg
   refine step_pure (v:=.pointer (some ⟨b,of+20,none⟩)) hk hC hw ?_ rfl
   unfold execOp
   simp only [ho1]
   have xc:∀ v,A.eval (.const v)=v:=fun _=>rfl
   generalize A.eval=ρ at x59 xc ⊢
   simp [go_sem,x59,xc]
 | 7,_ =>
   have ho1:=opIs ho (p:=.fieldAddr 70 (.tmp 60) 3) (by kernel_rfl)
   have hg:=guardIs ho (p:=none) (by kernel_rfl)
   intro e A w hA hC hp K hk
   have x60:A.eval (.tmp 60) = .pointer (some ⟨b,of+20,none⟩):=op_tmp hA hp 60 6 (by kernel_rfl) (by kernel_rfl) (by kernel_rfl) (hz _ rfl)
   have hw:Region.wanted o (yielded (regOf Tryz.f26 7) A.tmps)=true:=wanted_free hg
   refine step_pure (v:=.pointer (some ⟨b,of+23,none⟩)) hk hC hw ?_ rfl
   unfold execOp
   simp only [ho1]
   generalize A.eval=ρ at x60 ⊢
   simp [go_sem,x60]
 | 8,_ =>
   have ho1:=opIs ho (p:=.load 68 (.tmp 61)) (by kernel_rfl)
   have hg:=guardIs ho (p:=none) (by kernel_rfl)
   intro e A w hA hC hp K hk
   have x61:A.eval (.tmp 61) = .pointer (some ⟨b,of+23,none⟩):=op_tmp hA hp 61 7 (by kernel_rfl) (by kernel_rfl) (by kernel_rfl) (hz _ rfl)
   have hw:Region.wanted o (yielded (regOf Tryz.f26 7) A.tmps)=true:=wanted_free hg
   have e0:=(World.cell?_of_block (a:=⟨b,of+23,none⟩) (hC.block b hb3)).trans hc3
   refine step_pure (v:=.slice ea el.length ec) hk hC hw ?_ rfl
   unfold execOp
   simp only [ho1]
   skip
   generalize A.eval=ρ at x61 ⊢
   simp [go_sem,x61,e0]
 | 9,_ =>
   have ho1:=opIs ho (p:=.call { callee:=(.builtin .len),args:=#[(.tmp 62)],argTypes:=#[68] }) (by kernel_rfl)
   have hg:=guardIs ho (p:=none) (by kernel_rfl)
   intro e A w hA hC hp K hk
   have x62:A.eval (.tmp 62) = .slice ea el.length ec:=op_tmp hA hp 62 8 (by kernel_rfl) (by kernel_rfl) (by kernel_rfl) (hz _ rfl)
   have hw:Region.wanted o (yielded (regOf Tryz.f26 7) A.tmps)=true:=wanted_free hg
   refine step_pure (v:=.int .i64 (el.length:Int)) hk hC hw ?_ rfl
   unfold execOp
   simp only [ho1]
   generalize A.eval=ρ at x62 ⊢
   simp [go_sem,x62]
 | 10,_ =>
   have ho1:=opIs ho (p:=.call { callee:=(.value (.func 68)),args:=#[(.tmp 57),(.tmp 63)],argTypes:=#[70,3] }) (by kernel_rfl)
   have hg:=guardIs ho (p:=none) (by kernel_rfl)
   intro e A w hA hC hp K hk
   have x57:A.eval (.tmp 57) = .agg #[.int .i64 ek,.int .i64 en,.string es,.slice ea el.length ec]:=op_tmp hA hp 57 3 (by kernel_rfl) (by kernel_rfl) (by kernel_rfl) (hz _ rfl)
   have x63:A.eval (.tmp 63) = .int .i64 (el.length:Int):=op_tmp hA hp 63 9 (by kernel_rfl) (by kernel_rfl) (by kernel_rfl) (hz _ rfl)
   have hw:Region.wanted o (yielded (regOf Tryz.f26 7) A.tmps)=true:=wanted_free hg
   refine step_call (f:=68) (args:=#[.agg #[.int .i64 ek,.int .i64 en,.string es,.slice ea el.length ec],.int .i64 (el.length:Int)]) hk hw ?_ ?_
   ·unfold execOp
    simp only [ho1]
    have xf:∀ f,A.eval (.func f) = .func (.func f) #[] #[]:=fun _=>rfl
    generalize A.eval=ρ at x57 x63 xf ⊢
    simp [go_sem,xf,x57,x63]
   ·refine (hcall w hC).mono ?_
    rintro en' w' ⟨hb',hcase⟩
    have key:∃ a n c,en' = .returned (.tuple #[.slice a n c,.bool B])∧(B=true→n=(el.map (fun x=>cl x.n)).length∧w'.ownsRow w1.heap.size 3 1 (.slice a n c) n (i64s (el.map (fun x=>cl x.n)))):=by
     rcases hcase with ⟨rfl,a,n,c,rfl⟩ | ⟨rfl,a,c,rfl,hown⟩
     ·exact⟨a,n,c,rfl,fun h=>by cases h⟩
     ·exact⟨a,_,c,rfl,fun _=>⟨rfl,own_base hown hC.size⟩⟩
    obtain⟨a,n,c,rfl,hq⟩:=key
    exact⟨_,rfl,⟨a,n,c,rfl,hq⟩,below_then hC hb' hC.size,fun j u _ _ _ _ h=>wgn_keep BX b of vn vt vc ek en es ea el ec B w1 j u w _ hb' h⟩
 | 11,_ =>
   have ho1:=opIs ho (p:=.move (.tmp 64)) (by kernel_rfl)
   have hg:=guardIs ho (p:=none) (by kernel_rfl)
   intro e A w hA hC hp K hk
   have x64:=op_tmp hA hp 64 10 (by kernel_rfl) (by kernel_rfl) (by kernel_rfl) (hz _ rfl)
   have hw:Region.wanted o (yielded (regOf Tryz.f26 7) A.tmps)=true:=wanted_free hg
   obtain⟨a,n,c,x64,hq⟩:=x64
   exact step_pure hk hC hw (run_move ho1 x64 w) ⟨a,n,c,rfl,hq⟩
 | 12,_ =>
   have ho1:=opIs ho (p:=.extract (.tmp 53) 0) (by kernel_rfl)
   have hg:=guardIs ho (p:=none) (by kernel_rfl)
   intro e A w hA hC hp K hk
   have x53:=op_tmp hA hp 53 11 (by kernel_rfl) (by kernel_rfl) (by kernel_rfl) (hz _ rfl)
   have hw:Region.wanted o (yielded (regOf Tryz.f26 7) A.tmps)=true:=wanted_free hg
   obtain⟨a,n,c,x53,hq⟩:=x53
   exact step_pure hk hC hw (run_extract ho1 x53 rfl w) ⟨a,n,c,rfl,hq⟩
 | 13,_ =>
   have ho1:=opIs ho (p:=.extract (.tmp 53) 1) (by kernel_rfl)
   have hg:=guardIs ho (p:=none) (by kernel_rfl)
   intro e A w hA hC hp K hk
   have x53:=op_tmp hA hp 53 11 (by kernel_rfl) (by kernel_rfl) (by kernel_rfl) (hz _ rfl)
   have hw:Region.wanted o (yielded (regOf Tryz.f26 7) A.tmps)=true:=wanted_free hg
   obtain⟨a,n,c,x53,hq⟩:=x53
   exact step_pure hk hC hw (run_extract ho1 x53 rfl w) rfl
 | 14,_ =>
   have ho1:=opIs ho (p:=.assign (.tmp 65)) (by kernel_rfl)
   have hg:=guardIs ho (p:=none) (by kernel_rfl)
   intro e A w hA hC hp K hk
   have x65:=op_tmp hA hp 65 12 (by kernel_rfl) (by kernel_rfl) (by kernel_rfl) (hz _ rfl)
   have hw:Region.wanted o (yielded (regOf Tryz.f26 7) A.tmps)=true:=wanted_free hg
   obtain⟨a,n,c,x65,hq⟩:=x65
   exact step_pure hk hC hw (run_assign ho1 x65 w) ⟨a,n,c,rfl,hq⟩
 | 15,_ =>
   have ho1:=opIs ho (p:=.assign (.tmp 66)) (by kernel_rfl)
   have hg:=guardIs ho (p:=none) (by kernel_rfl)
   intro e A w hA hC hp K hk
   have x66:A.eval (.tmp 66) = .bool B:=op_tmp hA hp 66 13 (by kernel_rfl) (by kernel_rfl) (by kernel_rfl) (hz _ rfl)
   have hw:Region.wanted o (yielded (regOf Tryz.f26 7) A.tmps)=true:=wanted_free hg
   exact step_pure hk hC hw (run_assign ho1 x66 w) rfl
 | _+16,h=>exact absurd h (by omega)
end Go.Proofs.YtlpgbmaoenncjaaGreatDoor

namespace Go.Proofs.YtlpgbmaoenncjaaGreatDoor
open Go.RowKit
set_option linter.unusedVariables false
def RetH (w:World) (x:Hd × Int) (e:Ending) (w':World):Prop :=
 ∃ (ar:Option Addr) (nr cr:Nat) (av:Option Addr) (nv cv:Nat),e = .returned (.tuple #[x.1.val ar nr cr av nv cv,.int .i64 x.2])∧HdAt w' x.1 ar nr cr av nv cv∧Below w.heap.size w w'∧(∀ y,ar=some y→w.heap.size≤y.block)∧(∀ y,av=some y→w.heap.size≤y.block)
theorem hdAt_zero (w:World):HdAt w Hd.zero none 0 0 none 0 0 where
 recs:=⟨rfl,.inl rfl⟩
 voters:=⟨rfl,.inl rfl⟩
 nr:=Nat.zero_le _
 nv:=Nat.zero_le _
 data:=fun r hr=>by cases hr
 snap:=Nat.zero_le _
 nums:=by unfold in63 Hd.zero; decide
 vots:=fun x hx=>by cases hx
 cap:=Nat.le_refl _
theorem retH_zero {w w':World}(b:Int) (hb:Below w.heap.size w w'):RetH w (Hd.zero,b) (.returned (.tuple #[.agg #[.int .i64 0,.int .i64 0,.int .i64 0,.int .i64 0,.slice none 0 0,.string ⟨#[]⟩,.slice none 0 0],.int .i64 b])) w':=⟨none,0,0,none,0,0,rfl,hdAt_zero w',hb,fun y h=>(by cases h),fun y h=>(by cases h)⟩
theorem blk_seven {w:World}{g:Nat}{t:TypeId}{a0 a1 a2 a3 a4 a5 a6:Value}(h:Blk w g t [a0,a1,a2,a3,a4,a5,a6]) (b0 b1 b2 b3 b4 b5 b6:Value) :
 Blk (((((((w.setCell ⟨g,0,none⟩ b0).setCell ⟨g,1,none⟩ b1).setCell ⟨g,2,none⟩ b2).setCell ⟨g,3,none⟩ b3).setCell ⟨g,4,none⟩ b4).setCell ⟨g,5,none⟩ b5).setCell ⟨g,6,none⟩ b6) g t [b0,b1,b2,b3,b4,b5,b6] :=
 ((((((h.set 0 b0).set 1 b1).set 2 b2).set 3 b3).set 4 b4).set 5 b5).set 6 b6
theorem grown_seven (w:World) (g:Nat) (b0 b1 b2 b3 b4 b5 b6:Value) :
 w.grownBy (((((((w.setCell ⟨g,0,none⟩ b0).setCell ⟨g,1,none⟩ b1).setCell ⟨g,2,none⟩ b2).setCell ⟨g,3,none⟩ b3).setCell ⟨g,4,none⟩ b4).setCell ⟨g,5,none⟩ b5).setCell ⟨g,6,none⟩ b6) (some g) :=
 grown_trans (grown_trans (grown_trans (grown_trans (grown_trans (grown_trans (grown_setCell _ _ _ _) (grown_setCell _ _ _ _)) (grown_setCell _ _ _ _)) (grown_setCell _ _ _ _)) (grown_setCell _ _ _ _)) (grown_setCell _ _ _ _)) (grown_setCell _ _ _ _)
theorem hdAt_kept {w w':World}{h:Hd}{ar:Option Addr}{nr cr:Nat}{av:Option Addr}{nv cv:Nat}(H:HdAt w h ar nr cr av nv cv) {row:Option Nat}(hg:w.grownBy w' row) (h1:∀ y,ar=some y→row≠some y.block) (h2:∀ y,av=some y→row≠some y.block):HdAt w' h ar nr cr av nv cv :=
 { H with
   recs:=H.recs.kept hg (fun b e=>by cases ar with
    | none=>cases e
    | some y=>cases e; exact h1 y rfl)
   voters:=by
    refine⟨H.voters.1,?_⟩
    rcases H.voters.2 with h0 | ⟨b,off,ha,hc⟩
    ·exact .inl h0
    ·refine .inr ⟨b,off,ha,fun i hi=>?_⟩
     have hci:=hc i hi
     rw [← hci]
     exact World.cell?_of_block (a:=⟨b,off+i,none⟩) (hg.block b (World.block_lt_of_cell? w _ hci) (fun e=>h2 _ ha e.symm)) }
theorem own_four {w:World}{base:Nat}{a:Option Addr}{c:Nat}{x y z u:Int}(h:w.ownsRow base 3 1 (.slice a 4 c) 4 (i64s [x,y,z,u])):∃ g,a=some ⟨g,0,none⟩∧base≤g∧g<w.heap.size∧w.cell? ⟨g,0,none⟩=some (.int .i64 x)∧w.cell? ⟨g,1,none⟩=some (.int .i64 y)∧w.cell? ⟨g,2,none⟩=some (.int .i64 z)∧w.cell? ⟨g,3,none⟩=some (.int .i64 u):=by
 obtain⟨a',n',c',he,hsl,hfr,-⟩:=own_slice h
 cases he
 rcases hsl.2 with h0 | ⟨b,off,rfl,hc⟩
 ·have:=congrArg List.length h0; simp [i64s] at this
 ·rcases h.2 with ⟨hv,-⟩ | ⟨g,cap,cur,hv,hb,hh,-⟩
  ·cases hv
  ·cases hv
   exact⟨b,rfl,hb,lt_of_block hh,hc 0 (by simp [i64s]),hc 1 (by simp [i64s]),hc 2 (by simp [i64s]),hc 3 (by simp [i64s])⟩
theorem elemsV2 {w:World}{S:Nat→Prop}{va:Option Addr}{vl:List V}(hall:VAll w S va 0 vl) (h:0<vl.length):∃ b o,va=some ⟨b,o,none⟩∧S b∧∀ k (hk:k<vl.length),∃ a c,(vl[k].l.length≤c∧(a=none→c=0))∧VAll w S a 0 vl[k].l ∧
 w.cell? ⟨b,o+k*4,none⟩=some (.int .i64 vl[k].k)∧w.cell? ⟨b,o+k*4+1,none⟩=some (.int .i64 vl[k].n)∧w.cell? ⟨b,o+k*4+2,none⟩=some (.string vl[k].s)∧w.cell? ⟨b,o+k*4+3,none⟩=some (.slice a vl[k].l.length c):=by
 obtain⟨b,o,cs,ha,hS,-,-⟩:=hall.at 0 vl 0 h
 refine⟨b,o,ha,hS,fun k hk=>?_⟩
 obtain⟨b',o',cs',ha',-,hat,hc⟩:=hall.at 0 vl k hk
 rw [ha] at ha'
 obtain⟨rfl,rfl⟩:b=b'∧o=o':=by have:=Option.some.inj ha'; exact⟨congrArg Addr.block this,congrArg Addr.off this⟩
 generalize vl[k]=x at *
 obtain⟨xk,xn,xs,xl⟩:=x
 simp only [V.At] at hat
 obtain⟨a,c,rfl,h3,h4,h5⟩:=hat
 rw [Nat.zero_add] at hc
 exact⟨a,c,⟨h3,h4⟩,h5,hc 0 _ rfl,hc 1 _ rfl,hc 2 _ rfl,hc 3 _ rfl⟩
theorem list_of7 {α:Type}{l:List α}(h:l.length=7):∃ a b c d e f g,l=[a,b,c,d,e,f,g]:=by
 match l,h with
 | [a,b,c,d,e,f,g],_=>exact⟨a,b,c,d,e,f,g,rfl⟩
theorem cl63 (n:Int):in63 (cl n):=by unfold in63 cl; omega
set_option maxRecDepth 100000 in
set_option maxHeartbeats 1000000 in
theorem wget_bad (s:ByteArray) (w:World) (hm:s.size≤9223372036854775807) (hbad:(getL s).bad≠0):Calls Tryz.prog 26 #[.string s] w (RetH w (Hd.zero,(getL s).bad)):=by
 have HG:=Lib.hid (get_any s (w.alloc (.cells #[.int .i64 0,.int .i64 0,.int .i64 0,.int .i64 0,.slice none 0 0,.string ⟨#[]⟩,.slice none 0 0] 42)) hm)
 have HB0:=Lib.hid ((Below.refl w.heap.size w).alloc (Nat.le_refl _) (.cells #[.int .i64 0,.int .i64 0,.int .i64 0,.int .i64 0,.slice none 0 0,.string ⟨#[]⟩,.slice none 0 0] 42))
 have HR0:Hid (Blk (w.alloc (.cells #[.int .i64 0,.int .i64 0,.int .i64 0,.int .i64 0,.slice none 0 0,.string ⟨#[]⟩,.slice none 0 0] 42)) w.heap.size 42 [.int .i64 0,.int .i64 0,.int .i64 0,.int .i64 0,.slice none 0 0,.string ⟨#[]⟩,.slice none 0 0]):=Lib.hid (heap_alloc_new w _)
 obtain⟨b,hb⟩:∃ b,b=(getL s).bad:=⟨_,rfl⟩
 have p1:(b != 0)=true:=by rw [hb]; simpa using hbad
 have HBE:=Lib.hid hb
 clear hbad
 go_enter Tryz.func26,Tryz.ntmps26
 go_wp2_with fail
 refine HG.out.mono ?_
 rintro e w1 ⟨cs,rfl,hat,hb1⟩
 dsimp only
 rw [← hb]
 clear hb
 obtain⟨v,hv⟩:∃ v,v=(getL s).v:=⟨_,rfl⟩
 rw [← hv] at hat
 clear hv
 obtain⟨vk,vn,vt,vl⟩:=v
 simp only [V.At] at hat
 obtain⟨va,vc,rfl,-,-,-⟩:=hat
 have HB1:=Lib.hid (below_then HB0.out hb1 HB0.out.size)
 have HR1:=Lib.hid (HR0.out.keep hb1)
 have HB2:=Lib.hid (HB1.out.alloc HB1.out.size (.cells #[.int .i64 vk,.int .i64 vn,.string vt,.slice va vl.length vc] 70))
 have HR2:=Lib.hid (HR1.out.alloc (.cells #[.int .i64 vk,.int .i64 vn,.string vt,.slice va vl.length vc] 70))
 have q0:=HR2.out.cell (j:=0) rfl
 have f0:=HR2.out.free 0
 have q1:=HR2.out.cell (j:=1) rfl
 have f1:=HR2.out.free 1
 have q2:=HR2.out.cell (j:=2) rfl
 have f2:=HR2.out.free 2
 have q3:=HR2.out.cell (j:=3) rfl
 have f3:=HR2.out.free 3
 have q4:=HR2.out.cell (j:=4) rfl
 have f4:=HR2.out.free 4
 have q5:=HR2.out.cell (j:=5) rfl
 have f5:=HR2.out.free 5
 have q6:=HR2.out.cell (j:=6) rfl
 have f6:=HR2.out.free 6
 clear HG HB0 HR0 HR1 hb1
 go_wp2_with fail
 (try simp only [Exit.inBlock,Exit.then])
 have hz9:=blk_seven HR2.out (.int .i64 0) (.int .i64 0) (.int .i64 0) (.int .i64 0) (.slice none 0 0) (.string ⟨#[]⟩) (.slice none 0 0)
 have hg9:=grown_seven (w1.alloc (.cells #[.int .i64 vk,.int .i64 vn,.string vt,.slice va vl.length vc] 70)) w.heap.size (.int .i64 0) (.int .i64 0) (.int .i64 0) (.int .i64 0) (.slice none 0 0) (.string ⟨#[]⟩) (.slice none 0 0)
 have HB9:=Lib.hid (HB2.out.grown hg9 HB2.out.size (fun q e=>by have:=Option.some.inj e; omega))
 refine bodyPost_ret (v:=.tuple #[.agg #[.int .i64 0,.int .i64 0,.int .i64 0,.int .i64 0,.slice none 0 0,.string ⟨#[]⟩,.slice none 0 0],.int .i64 b]) ?_ rfl ?_
 ·exact results_row_tmp (p:=2) (u:=3) rfl _ _ w.heap.size 42 _ (0,0) _ rfl hz9 Tryz.underlying42 rfl (by kernel_rfl)
 ·rw [HBE.out]; exact retH_zero _ HB9.out
set_option maxRecDepth 100000 in
set_option maxHeartbeats 3000000 in
theorem wget_go (s:ByteArray) (w:World) (hm:s.size≤9223372036854775807) (htab:Lib.TabIs Tryz.prog w "internal/strconv.uint64pow10" .u64 Lib.pow10Tab) (hbad:(getL s).bad=0) (v:V) (hv:(getL s).v=v) (x:Hd × Int) (hx:Hid (x=readHN v)):Calls Tryz.prog 26 #[.string s] w (RetH w x):=by
 have HG:=Lib.hid (get_any s (w.alloc (.cells #[.int .i64 0,.int .i64 0,.int .i64 0,.int .i64 0,.slice none 0 0,.string ⟨#[]⟩,.slice none 0 0] 42)) hm)
 have HB0:=Lib.hid ((Below.refl w.heap.size w).alloc (Nat.le_refl _) (.cells #[.int .i64 0,.int .i64 0,.int .i64 0,.int .i64 0,.slice none 0 0,.string ⟨#[]⟩,.slice none 0 0] 42))
 have HR0:Hid (Blk (w.alloc (.cells #[.int .i64 0,.int .i64 0,.int .i64 0,.int .i64 0,.slice none 0 0,.string ⟨#[]⟩,.slice none 0 0] 42)) w.heap.size 42 [.int .i64 0,.int .i64 0,.int .i64 0,.int .i64 0,.slice none 0 0,.string ⟨#[]⟩,.slice none 0 0]):=Lib.hid (heap_alloc_new w _)
 have HT:=Lib.hid (Lib.tabBelow_of_tabIs htab)
 obtain⟨at_,hat_⟩:∃ b,b=(getL s).at_:=⟨_,rfl⟩
 have HA_:=Lib.hid hat_
 have HBA:=Lib.hid hbad
 have HHV:=Lib.hid hv
 clear hbad hv hat_ htab
 go_enter Tryz.func26,Tryz.ntmps26
 go_wp2_with fail
 refine HG.out.mono ?_
 rintro e w1 ⟨cs,rfl,hat,hb1⟩
 dsimp only
 rw [HBA.out,← HA_.out]
 rw [HHV.out] at hat
 obtain⟨vk,vn,vt,vl⟩:=v
 simp only [V.At] at hat
 obtain⟨va,vc,rfl,hvc,hv0,hall⟩:=hat
 have HB1:=Lib.hid (below_then HB0.out hb1 HB0.out.size)
 have HR1:=Lib.hid (HR0.out.keep hb1)
 have hb2:Below w1.heap.size w1 (w1.alloc (.cells #[.int .i64 vk,.int .i64 vn,.string vt,.slice va vl.length vc] 70)):=(Below.refl w1.heap.size w1).alloc (Nat.le_refl _) _
 have HB2:=Lib.hid (HB1.out.alloc HB1.out.size (.cells #[.int .i64 vk,.int .i64 vn,.string vt,.slice va vl.length vc] 70))
 have HR2:=Lib.hid (HR1.out.alloc (.cells #[.int .i64 vk,.int .i64 vn,.string vt,.slice va vl.length vc] 70))
 have HV2:Hid ((w1.alloc (.cells #[.int .i64 vk,.int .i64 vn,.string vt,.slice va vl.length vc] 70)).heap[w1.heap.size]? = some (.cells #[.int .i64 vk,.int .i64 vn,.string vt,.slice va vl.length vc] 70 (0,0))):=Lib.hid (heap_alloc_new w1 _)
 have HALL:=Lib.hid (VAll.move (w':=w1.alloc (.cells #[.int .i64 vk,.int .i64 vn,.string vt,.slice va vl.length vc] 70)) (T:=fun p=>p<w1.heap.size) (fun _ h=>h.2) (fun p hp=>hb2.block p hp.2) _ _ _ hall)
 have HW1:Hid (w.heap.size<w1.heap.size):=Lib.hid (lt_of_block HR1.out)
 have HS2:Hid ((w1.alloc (.cells #[.int .i64 vk,.int .i64 vn,.string vt,.slice va vl.length vc] 70)).heap.size=w1.heap.size+1):=Lib.hid (by simp)
 have HLL:Hid (∀ y∈vl,y.l.length≤4000):=Lib.hid (fun y hy=>by
  have h:=getL_ok s HBA.out
  rw [HHV.out] at h
  obtain⟨j,hj,rfl⟩:=List.getElem_of_mem hy
  exact fld_few h.2.2.1 j hj (by rw [List.getD_eq_getElem?_getD,List.getElem?_eq_getElem hj]; rfl))
 have HVLN:Hid (vl.length≤4000):=Lib.hid (by
  have h:=(getL_ok s HBA.out).2.2.1
  rw [HHV.out,V.cnt] at h
  have:=cntAll_ge vl
  omega)
 have HTX:Hid (∀ y∈vl,(putL y).length≤131072∨vk≠3):=Lib.hid (fun y hy=>by
  by_cases h3:vk=3
  ·subst h3
   have hp:=(getL_ok s HBA.out).2.2.2.2
   rw [HHV.out] at hp
   exact .inl (Nat.le_trans (mem_len hy) (Nat.le_trans (all_len (V.mk 3 vn vt vl) rfl) hp))
  ·exact .inr h3)
 clear hall hb1 hb2 HG HB0 HR0 HR1
 go_upto_region 2 with fail
 generalize (w1.alloc (.cells #[.int .i64 vk,.int .i64 vn,.string vt,.slice va vl.length vc] 70))=w2 at *
 have hs2:=HS2.out
 have v0:=(Lib.cell_of_heap HV2.out 0).trans (show _=some (Value.int .i64 vk) from rfl)
 have v1:=(Lib.cell_of_heap HV2.out 1).trans (show _=some (Value.int .i64 vn) from rfl)
 have v2:=(Lib.cell_of_heap HV2.out 2).trans (show _=some (Value.string vt) from rfl)
 have v3:=(Lib.cell_of_heap HV2.out 3).trans (show _=some (Value.slice va vl.length vc) from rfl)
 have hcall:=Lib.hid (wnums_any vk vn vt va vl vc 4 w2 _ HALL.out hvc hv0 (by decide) _ (Lib.hid rfl))
 go_wp2_with fail
 refine hcall.out.mono ?_
 rintro e w3 ⟨hb3,hcase⟩
 have HK3:=Lib.hid hb3
 have HB3:=Lib.hid (below_then HB2.out hb3 HB2.out.size)
 have HR3:=Lib.hid (HR2.out.keep hb3)
 have HV3:=Lib.hid ((hb3.block _ (lt_of_block HV2.out)).trans HV2.out)
 have hs3:w2.heap.size≤w3.heap.size:=hb3.size
 clear v0 v1 v2 v3 hcall hb3
 rcases hcase with ⟨hbf,fa,fn',fc,rfl⟩ | ⟨hbt,na,nc,rfl,hnums⟩
 ·have HZ9:Hid (x=(Hd.zero,1)):=Lib.hid (by
   rw [hx.out]; unfold readHN; rw [if_neg]
   rintro⟨⟨h1,h2,-,-,-⟩,h3,-⟩
   have h1:vk=3:=h1
   have h2:vl.length=7:=h2
   obtain⟨g0,g1,g2,g3,g4,g5,g6,rfl⟩:=list_of7 h2
   obtain⟨k0,k1,k2,k3⟩:=h3
   have k0:g0.k=1:=k0
   have k1:g1.k=1:=k1
   have k2:g2.k=1:=k2
   have k3:g3.k=1:=k3
   rw [decide_eq_true (⟨h1,by simp⟩:vk=3∧4≤[g0,g1,g2,g3,g4,g5,g6].length)] at hbf
   simp [isNum,k0,k1,k2,k3] at hbf)
  clear hbf hx HLL HTX
  have q0:=HR3.out.cell (j:=0) rfl
  have f0:=HR3.out.free 0
  have q1:=HR3.out.cell (j:=1) rfl
  have f1:=HR3.out.free 1
  have q2:=HR3.out.cell (j:=2) rfl
  have f2:=HR3.out.free 2
  have q3:=HR3.out.cell (j:=3) rfl
  have f3:=HR3.out.free 3
  have q4:=HR3.out.cell (j:=4) rfl
  have f4:=HR3.out.free 4
  have q5:=HR3.out.cell (j:=5) rfl
  have f5:=HR3.out.free 5
  have q6:=HR3.out.cell (j:=6) rfl
  have f6:=HR3.out.free 6
  go_wp2_with fail
  (try simp only [Exit.inBlock,Exit.then])
  have hz9:=blk_seven HR3.out (.int .i64 0) (.int .i64 0) (.int .i64 0) (.int .i64 0) (.slice none 0 0) (.string ⟨#[]⟩) (.slice none 0 0)
  have hg9:=grown_seven w3 w.heap.size (.int .i64 0) (.int .i64 0) (.int .i64 0) (.int .i64 0) (.slice none 0 0) (.string ⟨#[]⟩) (.slice none 0 0)
  have HB9:=Lib.hid (HB3.out.grown hg9 HB3.out.size (fun q e=>by have:=Option.some.inj e; omega))
  refine bodyPost_ret (v:=.tuple #[.agg #[.int .i64 0,.int .i64 0,.int .i64 0,.int .i64 0,.slice none 0 0,.string ⟨#[]⟩,.slice none 0 0],.int .i64 1]) ?_ rfl ?_
  ·exact results_row_tmp (p:=2) (u:=3) rfl _ _ w.heap.size 42 _ (0,0) _ rfl hz9 Tryz.underlying42 rfl (by kernel_rfl)
  ·rw [HZ9.out]; exact retH_zero _ HB9.out
 ·rw [Bool.and_eq_true,decide_eq_true_eq,List.all_eq_true] at hbt
  obtain⟨⟨rfl,h4l⟩,hnm⟩:=hbt
  have v3:=(Lib.cell_of_heap HV3.out 3).trans (show _=some (Value.slice va vl.length vc) from rfl)
  by_cases hl7:vl.length=7
  ·obtain⟨b,o,rfl,hSb,hel⟩:=elemsV2 HALL.out (by omega)
   obtain⟨g0,g1,g2,g3,g4,g5,g6,rfl⟩:=list_of7 hl7
   obtain⟨a4,c4,-,-,e40,e41,e42,e43⟩:=hel 4 (by simp)
   obtain⟨a5,c5,⟨hc5,h05⟩,r5,e50,e51,e52,e53⟩:=hel 5 (by simp)
   obtain⟨a6,c6,⟨hc6,h06⟩,r6,e60,e61,e62,e63⟩:=hel 6 (by simp)
   simp only [Nat.reduceMul,Nat.add_assoc,Nat.reduceAdd,List.getElem_cons_succ,List.getElem_cons_zero] at e40 e42 e50 e51 e52 e53 e60 e61 e62 e63 hc5 hc6 r5 r6
   have hb3:b<w2.heap.size:=by omega
   have HL5:=Lib.hid (HLL.out g5 (by simp))
   have HL6:=Lib.hid (HLL.out g6 (by simp))
   have HT4:=Lib.hid ((HTX.out g4 (by simp)).resolve_right (fun h=>h rfl))
   have HT6:=Lib.hid ((HTX.out g6 (by simp)).resolve_right (fun h=>h rfl))
   have HNM:Hid (g0.k=1∧g1.k=1∧g2.k=1∧g3.k=1):=Lib.hid ⟨of_decide_eq_true (hnm g0 (by simp)),of_decide_eq_true (hnm g1 (by simp)),of_decide_eq_true (hnm g2 (by simp)),of_decide_eq_true (hnm g3 (by simp))⟩
   obtain⟨nb,rfl,hnb0,hnb,hn0,hn1,hn2,hn3⟩:=own_four (x:=cl g0.n) (y:=cl g1.n) (z:=cl g2.n) (u:=cl g3.n) hnums
   have HNB:=Lib.hid (And.intro hnb (And.intro hn0 (And.intro hn1 (And.intro hn2 hn3))))
   change w3.cell? ⟨w1.heap.size,3,none⟩=some (.slice (some ⟨b,o,none⟩) 7 vc) at v3
   have y4:=cell_keep HK3.out e40
   have y5:=cell_keep HK3.out e50
   clear hel hnums hnm hnb hn0 hn1 hn2 hn3 hnb0 hl7 h4l e41 HLL HTX HALL hvc hv0 HVLN
   by_cases hc:g4.k=2∧g5.k=3
   ·obtain⟨hk4,hk5⟩:=hc
    rw [hk4] at y4
    rw [hk5] at y5
    have HK45:=Lib.hid (And.intro hk4 hk5)
    have HE:Hid (w3.cell? ⟨b,o+18,none⟩=some (.string g4.s)∧w3.cell? ⟨b,o+20,none⟩=some (.int .i64 g5.k)∧w3.cell? ⟨b,o+21,none⟩=some (.int .i64 g5.n)∧w3.cell? ⟨b,o+22,none⟩=some (.string g5.s)∧w3.cell? ⟨b,o+23,none⟩=some (.slice a5 g5.l.length c5)):=Lib.hid ⟨cell_keep HK3.out e42,cell_keep HK3.out e50,cell_keep HK3.out e51,cell_keep HK3.out e52,cell_keep HK3.out e53⟩
    have HE6:=Lib.hid (And.intro e60 (And.intro e61 (And.intro e62 e63)))
    have HR5:=Lib.hid r5
    have HR6:=Lib.hid r6
    have HH5:=Lib.hid (And.intro hc5 h05)
    clear hk4 hk5 e40 e42 e50 e51 e52 e53 e60 e61 e62 e63 r5 r6 hc5 h05 hc6 h06
    obtain⟨B,hBe⟩:∃ B,B=g5.l.all isNum:=⟨_,rfl⟩
    have HBE:=Lib.hid hBe
    have HCN:Hid (∀ W,Below w3.heap.size w3 W→Calls Tryz.prog 68 #[.agg #[.int .i64 g5.k,.int .i64 g5.n,.string g5.s,.slice a5 g5.l.length c5],.int .i64 (g5.l.length:Int)] W (NumsP W B (g5.l.map (fun x=>cl x.n)))):=Lib.hid (fun W hW=>by
     have h:=wnums_any g5.k g5.n g5.s a5 g5.l c5 g5.l.length W _ (VAll.move (w':=W) (fun _ h=>h) (fun p hp=>(hW.block p (by omega)).trans (HK3.out.block p (by omega))) _ _ _ HR5.out) HH5.out.1 HH5.out.2 HL5.out B (Lib.hid (by rw [List.take_length,decide_eq_true ⟨HK45.out.2,Nat.le_refl _⟩,Bool.true_and]; exact HBE.out))
     rw [List.take_length] at h
     exact h)
    clear hBe
    go_wp2_with fail
    clear y4 y5 v3
    refine wp_region_set (regOf Tryz.f26 7) [some 54,some 55,some 56,some 57,some 58,some 59,some 60,some 61,some 62,some 63,some 64,some 53,some 65,some 66,some 9,some 8] (wgnT w1.heap.size b o vn vt vc g5.k g5.n g5.s a5 g5.l c5 B w3) (fun w'=>Below w3.heap.size w3 w') wgnD (by kernel_rfl) (by kernel_rfl) (by kernel_rfl) (by kernel_rfl) (by kernel_rfl) ((Below.refl _ _).drew)
     (wgn_steps w1.heap.size b o vn vt vc g5.k g5.n g5.s a5 g5.l c5 B w3 (by omega) HV3.out HE.out.2.1 HE.out.2.2.1 HE.out.2.2.2.1 HE.out.2.2.2.2 HCN.out (by kernel_rfl) (by kernel_rfl)) ?_
    intro vs w4 hn hCw4 hT
    replace hn:vs.length=16:=hn
    obtain⟨v0,vs1,rfl,hn1⟩:=len_cons hn
    obtain⟨v1,vs2,rfl,hn2⟩:=len_cons hn1
    obtain⟨v2,vs3,rfl,hn3⟩:=len_cons hn2
    obtain⟨v3,vs4,rfl,hn4⟩:=len_cons hn3
    obtain⟨v4,vs5,rfl,hn5⟩:=len_cons hn4
    obtain⟨v5,vs6,rfl,hn6⟩:=len_cons hn5
    obtain⟨v6,vs7,rfl,hn7⟩:=len_cons hn6
    obtain⟨v7,vs8,rfl,hn8⟩:=len_cons hn7
    obtain⟨v8,vs9,rfl,hn9⟩:=len_cons hn8
    obtain⟨v9,vs10,rfl,hn10⟩:=len_cons hn9
    obtain⟨v10,vs11,rfl,hn11⟩:=len_cons hn10
    obtain⟨v11,vs12,rfl,hn12⟩:=len_cons hn11
    obtain⟨v12,vs13,rfl,hn13⟩:=len_cons hn12
    obtain⟨v13,vs14,rfl,hn14⟩:=len_cons hn13
    obtain⟨v14,vs15,rfl,hn15⟩:=len_cons hn14
    obtain⟨v15,vs16,rfl,hn16⟩:=len_cons hn15
    obtain rfl:=List.eq_nil_of_length_eq_zero hn16
    clear hn hn1 hn2 hn3 hn4 hn5 hn6 hn7 hn8 hn9 hn10 hn11 hn12 hn13 hn14 hn15 hn16
    obtain rfl:v0 = .pointer (some ⟨w1.heap.size,3,none⟩):=hT 0 v0 rfl (by kernel_rfl)
    obtain rfl:v1 = .slice (some ⟨b,o,none⟩) 7 vc:=hT 1 v1 rfl (by kernel_rfl)
    obtain rfl:v2 = .pointer (some ⟨b,o+20,none⟩):=hT 2 v2 rfl (by kernel_rfl)
    obtain rfl:v3 = .agg #[.int .i64 g5.k,.int .i64 g5.n,.string g5.s,.slice a5 g5.l.length c5]:=hT 3 v3 rfl (by kernel_rfl)
    obtain rfl:v4 = .pointer (some ⟨w1.heap.size,3,none⟩):=hT 4 v4 rfl (by kernel_rfl)
    obtain rfl:v5 = .slice (some ⟨b,o,none⟩) 7 vc:=hT 5 v5 rfl (by kernel_rfl)
    obtain rfl:v6 = .pointer (some ⟨b,o+20,none⟩):=hT 6 v6 rfl (by kernel_rfl)
    obtain rfl:v7 = .pointer (some ⟨b,o+23,none⟩):=hT 7 v7 rfl (by kernel_rfl)
    obtain rfl:v8 = .slice a5 g5.l.length c5:=hT 8 v8 rfl (by kernel_rfl)
    obtain rfl:v9 = .int .i64 (g5.l.length:Int):=hT 9 v9 rfl (by kernel_rfl)
    have t10:=Lib.hid (hT 10 v10 rfl (by kernel_rfl))
    have t11:=Lib.hid (hT 11 v11 rfl (by kernel_rfl))
    have t12:=Lib.hid (hT 12 v12 rfl (by kernel_rfl))
    obtain rfl:v13 = .bool B:=hT 13 v13 rfl (by kernel_rfl)
    have t14:=Lib.hid (hT 14 v14 rfl (by kernel_rfl))
    obtain rfl:v15 = .bool B:=hT 15 v15 rfl (by kernel_rfl)
    clear hT
    simp only [puts,Act.put,List.setIfInBounds_toArray,List.set_cons_succ,List.set_cons_zero]
    obtain⟨va5,vm5,vc5,rfl,hvo⟩:=t14.out
    have HVO:=Lib.hid hvo
    have HKA:=Lib.hid hCw4
    have HBA4:=Lib.hid (below_then HB3.out hCw4 HB3.out.size)
    have HRA:=Lib.hid (HR3.out.keep hCw4)
    have HVA:=Lib.hid ((hCw4.block _ (lt_of_block HV3.out)).trans HV3.out)
    have hs4:w3.heap.size≤w4.heap.size:=hCw4.size
    have v3:=(Lib.cell_of_heap HVA.out 3).trans (show _=some (Value.slice (some ⟨b,o,none⟩) 7 vc) from rfl)
    have y0:=cell_keep HKA.out (cell_keep HK3.out HE6.out.1)
    have y1:=cell_keep HKA.out (cell_keep HK3.out HE6.out.2.1)
    have y2:=cell_keep HKA.out (cell_keep HK3.out HE6.out.2.2.1)
    have y3:=cell_keep HKA.out (cell_keep HK3.out HE6.out.2.2.2)
    have hcall:=Lib.hid (wreadRecs_any g6.k g6.n g6.s a6 g6.l c6 w4 _ (fun p (hp:p<w1.heap.size)=>by omega) (VAll.move (w':=w4) (fun _ h=>h) (fun p hp=>(HKA.out.block p (by omega)).trans (HK3.out.block p (by omega))) _ _ _ HR6.out) HL6.out _ (Lib.hid rfl))
    clear hvo t10 t11 t12 t14 hCw4 HCN HR5 HH5
    go_wp2_with fail
    refine hcall.out.mono ?_
    rintro e w5 ⟨hb5,hcase⟩
    have HK5:=Lib.hid (HKA.out.trans (Below.lower hb5 HKA.out.size))
    have HB5:=Lib.hid (below_then HBA4.out hb5 HBA4.out.size)
    have HR5:=Lib.hid (HRA.out.keep hb5)
    have HV5:=Lib.hid ((hb5.block _ (lt_of_block HVA.out)).trans HVA.out)
    have hs5:w4.heap.size≤w5.heap.size:=hb5.size
    have HVO5:=Lib.hid (fun hB=>(show vm5=_∧_ from ⟨(HVO.out hB).1,own_under (HVO.out hB).2 hb5⟩))
    obtain⟨B3,hB3⟩:∃ B3,B3=(decide (g6.k=3)&&g6.l.all recAllB):=⟨_,rfl⟩
    rw [← hB3] at hcase
    have HB3E:=Lib.hid hB3
    have key:∃ ra rn rc,e = .returned (.tuple #[.slice ra rn rc,.bool B3])∧(B3=true→rn=(g6.l.map recCut).length∧w5.ownsRow w4.heap.size 67 3 (.slice ra rn rc) rn (rcE.cells (g6.l.map recCut))):=by
     rcases hcase with ⟨rfl,a,n,c,rfl⟩ | ⟨rfl,a,c,rfl,hown⟩
     ·exact⟨a,n,c,rfl,fun h=>by cases h⟩
     ·exact⟨a,_,c,rfl,fun _=>⟨rfl,hown⟩⟩
    clear hcase hB3
    obtain⟨ra,rn,rc,rfl,hro⟩:=key
    have HRO:=Lib.hid hro
    clear hro hb5 v3 y0 y1 y2 y3 hcall HVO HVA HRA HBA4 HKA
    dsimp only
    go_wp2_with fail
    obtain⟨N0,hN0⟩:∃ y,y=cl g0.n:=⟨_,rfl⟩
    obtain⟨N1,hN1⟩:∃ y,y=cl g1.n:=⟨_,rfl⟩
    obtain⟨N2,hN2⟩:∃ y,y=cl g2.n:=⟨_,rfl⟩
    obtain⟨N3,hN3⟩:∃ y,y=cl g3.n:=⟨_,rfl⟩
    obtain⟨S4,hS4⟩:∃ y,y=g4.s:=⟨_,rfl⟩
    have HNN:=Lib.hid (And.intro hN0 (And.intro hN1 (And.intro hN2 hN3)))
    have HS4:=Lib.hid hS4
    have hnb:=HNB.out.1
    have hm0:=cell_keep HK5.out (show w3.cell? ⟨nb,0,none⟩=some (.int .i64 N0) from by rw [hN0]; exact HNB.out.2.1)
    have hm1:=cell_keep HK5.out (show w3.cell? ⟨nb,1,none⟩=some (.int .i64 N1) from by rw [hN1]; exact HNB.out.2.2.1)
    have hm2:=cell_keep HK5.out (show w3.cell? ⟨nb,2,none⟩=some (.int .i64 N2) from by rw [hN2]; exact HNB.out.2.2.2.1)
    have hm3:=cell_keep HK5.out (show w3.cell? ⟨nb,3,none⟩=some (.int .i64 N3) from by rw [hN3]; exact HNB.out.2.2.2.2)
    have hs4':=cell_keep HK5.out (show w3.cell? ⟨b,o+18,none⟩=some (.string S4) from by rw [hS4]; exact HE.out.1)
    clear hN0 hN1 hN2 hN3 hS4
    refine wp_region_last (regOf Tryz.f26 9) [some 75,some 76,some 77,some 78,some 79,some 80,some 81,some 82,some 83,some 84,some 85,some 86,some 87,some 88,some 89,some 90,some 91,some 92,some 93,some 94,some 95,some 12] 22 (wgbT w1.heap.size b o nb nc vn vt vc N0 N1 N2 N3 S4 ra rn rc va5 vm5 vc5 w5) (fun w'=>Below w5.heap.size w5 w') wgbD (by kernel_rfl) (by kernel_rfl) (by kernel_rfl) (by kernel_rfl) (by kernel_rfl) (by kernel_rfl) (by kernel_rfl) ((Below.refl _ _).drew)
     (wgb_steps w1.heap.size b o nb nc vn vt vc N0 N1 N2 N3 S4 ra rn rc va5 vm5 vc5 w5 (by omega) HV5.out (by omega) hm0 hm1 hm2 hm3 hs4' (by kernel_rfl) (by kernel_rfl) (by kernel_rfl) (by kernel_rfl) (by kernel_rfl)) ?_
    intro oL hoL vs w9 hn hCw9 hT KL hKL
    replace hn:vs.length=22:=hn
    obtain⟨v0,vs1,rfl,hn1⟩:=len_cons hn
    obtain⟨v1,vs2,rfl,hn2⟩:=len_cons hn1
    obtain⟨v2,vs3,rfl,hn3⟩:=len_cons hn2
    obtain⟨v3,vs4,rfl,hn4⟩:=len_cons hn3
    obtain⟨v4,vs5,rfl,hn5⟩:=len_cons hn4
    obtain⟨v5,vs6,rfl,hn6⟩:=len_cons hn5
    obtain⟨v6,vs7,rfl,hn7⟩:=len_cons hn6
    obtain⟨v7,vs8,rfl,hn8⟩:=len_cons hn7
    obtain⟨v8,vs9,rfl,hn9⟩:=len_cons hn8
    obtain⟨v9,vs10,rfl,hn10⟩:=len_cons hn9
    obtain⟨v10,vs11,rfl,hn11⟩:=len_cons hn10
    obtain⟨v11,vs12,rfl,hn12⟩:=len_cons hn11
    obtain⟨v12,vs13,rfl,hn13⟩:=len_cons hn12
    obtain⟨v13,vs14,rfl,hn14⟩:=len_cons hn13
    obtain⟨v14,vs15,rfl,hn15⟩:=len_cons hn14
    obtain⟨v15,vs16,rfl,hn16⟩:=len_cons hn15
    obtain⟨v16,vs17,rfl,hn17⟩:=len_cons hn16
    obtain⟨v17,vs18,rfl,hn18⟩:=len_cons hn17
    obtain⟨v18,vs19,rfl,hn19⟩:=len_cons hn18
    obtain⟨v19,vs20,rfl,hn20⟩:=len_cons hn19
    obtain⟨v20,vs21,rfl,hn21⟩:=len_cons hn20
    obtain⟨v21,vs22,rfl,hn22⟩:=len_cons hn21
    obtain rfl:=List.eq_nil_of_length_eq_zero hn22
    clear hn hn1 hn2 hn3 hn4 hn5 hn6 hn7 hn8 hn9 hn10 hn11 hn12 hn13 hn14 hn15 hn16 hn17 hn18 hn19 hn20 hn21 hn22
    obtain rfl:v0 = .slice (some ⟨nb,0,none⟩) 4 nc:=hT 0 v0 rfl (by kernel_rfl)
    obtain rfl:v1 = .pointer (some ⟨nb,0,none⟩):=hT 1 v1 rfl (by kernel_rfl)
    obtain rfl:v2 = .int .i64 N0:=hT 2 v2 rfl (by kernel_rfl)
    obtain rfl:v3 = .slice (some ⟨nb,0,none⟩) 4 nc:=hT 3 v3 rfl (by kernel_rfl)
    obtain rfl:v4 = .pointer (some ⟨nb,1,none⟩):=hT 4 v4 rfl (by kernel_rfl)
    obtain rfl:v5 = .int .i64 N1:=hT 5 v5 rfl (by kernel_rfl)
    obtain rfl:v6 = .slice (some ⟨nb,0,none⟩) 4 nc:=hT 6 v6 rfl (by kernel_rfl)
    obtain rfl:v7 = .pointer (some ⟨nb,2,none⟩):=hT 7 v7 rfl (by kernel_rfl)
    obtain rfl:v8 = .int .i64 N2:=hT 8 v8 rfl (by kernel_rfl)
    obtain rfl:v9 = .slice (some ⟨nb,0,none⟩) 4 nc:=hT 9 v9 rfl (by kernel_rfl)
    obtain rfl:v10 = .pointer (some ⟨nb,3,none⟩):=hT 10 v10 rfl (by kernel_rfl)
    obtain rfl:v11 = .int .i64 N3:=hT 11 v11 rfl (by kernel_rfl)
    obtain rfl:v12 = .slice ra rn rc:=hT 12 v12 rfl (by kernel_rfl)
    obtain rfl:v13 = .agg #[.int .i64 N2,.int .i64 N3,.slice ra rn rc]:=hT 13 v13 rfl (by kernel_rfl)
    obtain rfl:v14 = .pointer (some ⟨w1.heap.size,3,none⟩):=hT 14 v14 rfl (by kernel_rfl)
    obtain rfl:v15 = .slice (some ⟨b,o,none⟩) 7 vc:=hT 15 v15 rfl (by kernel_rfl)
    obtain rfl:v16 = .pointer (some ⟨b,o+16,none⟩):=hT 16 v16 rfl (by kernel_rfl)
    obtain rfl:v17 = .pointer (some ⟨b,o+18,none⟩):=hT 17 v17 rfl (by kernel_rfl)
    obtain rfl:v18 = .string S4:=hT 18 v18 rfl (by kernel_rfl)
    obtain rfl:v19 = .slice va5 vm5 vc5:=hT 19 v19 rfl (by kernel_rfl)
    obtain rfl:v20 = .agg #[.int .i64 N0,.int .i64 N1,.int .i64 N2,.int .i64 N3,.slice ra rn rc,.string S4,.slice va5 vm5 vc5]:=hT 20 v20 rfl (by kernel_rfl)
    have t21:=Lib.hid (hT 21 v21 rfl (by kernel_rfl))
    clear hT
    have hoL1:=opIs hoL (p:=.store 42 (.tmp 12) (.tmp 95)) (by kernel_rfl)
    have hgL:=guardIs hoL (p:=none) (by kernel_rfl)
    have hdL:oL.dst=none:=by have:=(show ((regOf Tryz.f26 9)[22]?).map (·.dst)=some (none) by kernel_rfl); rw [hoL] at this; simpa using this
    rw [if_pos (wanted_free hgL)]
    rw [hdL] at hKL
    simp only [puts,Act.put,List.setIfInBounds_toArray,List.set_cons_succ,List.set_cons_zero] at hKL ⊢
    obtain⟨g,rfl,hgl,hgb⟩:=t21.out
    have HBK:Blk w9 g 42 [.int .i64 0,.int .i64 0,.int .i64 0,.int .i64 0,.slice none 0 0,.string ⟨#[]⟩,.slice none 0 0]:=hgb
    have q0:=HBK.cell (j:=0) rfl
    have f0:=HBK.free 0
    have q1:=HBK.cell (j:=1) rfl
    have f1:=HBK.free 1
    have q2:=HBK.cell (j:=2) rfl
    have f2:=HBK.free 2
    have q3:=HBK.cell (j:=3) rfl
    have f3:=HBK.free 3
    have q4:=HBK.cell (j:=4) rfl
    have f4:=HBK.free 4
    have q5:=HBK.cell (j:=5) rfl
    have f5:=HBK.free 5
    have q6:=HBK.cell (j:=6) rfl
    have f6:=HBK.free 6
    unfold Oper.wp
    rw [show (execOp _ oL).run Tryz.prog w9 = .ok .skip (((((((w9.setCell ⟨g,0,none⟩ (.int .i64 N0)).setCell ⟨g,1,none⟩ (.int .i64 N1)).setCell ⟨g,2,none⟩ (.int .i64 N2)).setCell ⟨g,3,none⟩ (.int .i64 N3)).setCell ⟨g,4,none⟩ (.slice ra rn rc)).setCell ⟨g,5,none⟩ (.string S4)).setCell ⟨g,6,none⟩ (.slice va5 vm5 vc5)) by unfold execOp; simp only [hoL1]; simp [go_sem,q0,q1,q2,q3,q4,q5,q6,f0,f1,f2,f3,f4,f5,f6]]
    show KL (Act.put _ oL.dst undef) _
    rw [hdL]
    refine hKL undef _ ?_
    have HM6:=Lib.hid (blk_seven HBK (.int .i64 N0) (.int .i64 N1) (.int .i64 N2) (.int .i64 N3) (.slice ra rn rc) (.string S4) (.slice va5 vm5 vc5))
    have hg5:=grown_seven w9 g (.int .i64 N0) (.int .i64 N1) (.int .i64 N2) (.int .i64 N3) (.slice ra rn rc) (.string S4) (.slice va5 vm5 vc5)
    have HKB:=Lib.hid (hCw9.grown hg5 hCw9.size (fun q e=>by have:=Option.some.inj e; omega))
    have HG1:=Lib.hid hgl
    clear q0 q1 q2 q3 q4 q5 q6 f0 f1 f2 f3 f4 f5 f6 hg5 hgl hgb HBK t21 hoL hoL1 hgL hdL hCw9 hm0 hm1 hm2 hm3 hs4'
    generalize (((((((w9.setCell ⟨g,0,none⟩ (.int .i64 N0)).setCell ⟨g,1,none⟩ (.int .i64 N1)).setCell ⟨g,2,none⟩ (.int .i64 N2)).setCell ⟨g,3,none⟩ (.int .i64 N3)).setCell ⟨g,4,none⟩ (.slice ra rn rc)).setCell ⟨g,5,none⟩ (.string S4)).setCell ⟨g,6,none⟩ (.slice va5 vm5 vc5))=w6 at *
    have HB6:=Lib.hid (below_then HB5.out HKB.out HB5.out.size)
    have HR6':=Lib.hid (HR5.out.keep HKB.out)
    have hs6:=HKB.out.size
    clear HR5 HB5
    have HCUT:Hid (hdCut (V.mk 3 vn vt [g0,g1,g2,g3,g4,g5,g6])=(⟨N0,N1,N2,N3,g6.l.map recCut,S4,g5.l.map (fun x=>cl x.n)⟩:Hd)):=Lib.hid (by rw [HNN.out.1,HNN.out.2.1,HNN.out.2.2.1,HNN.out.2.2.2,HS4.out]; rfl)
    have HNUM:Hid (hdNum (V.mk 3 vn vt [g0,g1,g2,g3,g4,g5,g6])↔(B=true∧B3=true∧rightH (⟨N0,N1,N2,N3,g6.l.map recCut,S4,g5.l.map (fun x=>cl x.n)⟩:Hd)=true)):=Lib.hid (by
     have h1:B=true↔∀ y∈g5.l,y.k=1:=by rw [HBE.out,List.all_eq_true]; simp [isNum]
     have h2:B3=true↔(g6.k=3∧∀ y∈g6.l,recAll y):=by rw [HB3E.out,Bool.and_eq_true,decide_eq_true_eq,List.all_eq_true]; simp [recAllB]
     rw [h1,h2]
     unfold hdNum
     rw [HCUT.out]
     constructor
     ·rintro⟨q1,q2,q3,q4,q5⟩
      exact⟨q3,⟨q1.2.2.2.2,q4⟩,q5⟩
     ·rintro⟨q3,⟨q6,q4⟩,q5⟩
      exact⟨⟨rfl,rfl,HK45.out.1,HK45.out.2,q6⟩,HNM.out,q3,q4,q5⟩)
    cases B with
    | false =>
      have HZ9:Hid (x=(Hd.zero,1)):=Lib.hid (by rw [hx.out]; unfold readHN; rw [if_neg (fun h=>by have:=(HNUM.out.1 h).1; cases this)])
      clear hx HNUM HCUT
      have q0:=HR6'.out.cell (j:=0) rfl
      have f0:=HR6'.out.free 0
      have q1:=HR6'.out.cell (j:=1) rfl
      have f1:=HR6'.out.free 1
      have q2:=HR6'.out.cell (j:=2) rfl
      have f2:=HR6'.out.free 2
      have q3:=HR6'.out.cell (j:=3) rfl
      have f3:=HR6'.out.free 3
      have q4:=HR6'.out.cell (j:=4) rfl
      have f4:=HR6'.out.free 4
      have q5:=HR6'.out.cell (j:=5) rfl
      have f5:=HR6'.out.free 5
      have q6:=HR6'.out.cell (j:=6) rfl
      have f6:=HR6'.out.free 6
      go_wp2_with fail
      (try simp only [Exit.inBlock,Exit.then])
      have hz9:=blk_seven HR6'.out (.int .i64 0) (.int .i64 0) (.int .i64 0) (.int .i64 0) (.slice none 0 0) (.string ⟨#[]⟩) (.slice none 0 0)
      have hg9:=grown_seven w6 w.heap.size (.int .i64 0) (.int .i64 0) (.int .i64 0) (.int .i64 0) (.slice none 0 0) (.string ⟨#[]⟩) (.slice none 0 0)
      have HB9:=Lib.hid (HB6.out.grown hg9 HB6.out.size (fun q e=>by have:=Option.some.inj e; omega))
      refine bodyPost_ret (v:=.tuple #[.agg #[.int .i64 0,.int .i64 0,.int .i64 0,.int .i64 0,.slice none 0 0,.string ⟨#[]⟩,.slice none 0 0],.int .i64 1]) ?_ rfl ?_
      ·exact results_row_tmp (p:=2) (u:=3) rfl _ _ w.heap.size 42 _ (0,0) _ rfl hz9 Tryz.underlying42 rfl (by kernel_rfl)
      ·rw [HZ9.out]; exact retH_zero _ HB9.out
    | true =>
      cases B3 with
      | false =>
        have HZ9:Hid (x=(Hd.zero,1)):=Lib.hid (by rw [hx.out]; unfold readHN; rw [if_neg (fun h=>by have:=(HNUM.out.1 h).2.1; cases this)])
        clear hx HNUM HCUT
        have q0:=HR6'.out.cell (j:=0) rfl
        have f0:=HR6'.out.free 0
        have q1:=HR6'.out.cell (j:=1) rfl
        have f1:=HR6'.out.free 1
        have q2:=HR6'.out.cell (j:=2) rfl
        have f2:=HR6'.out.free 2
        have q3:=HR6'.out.cell (j:=3) rfl
        have f3:=HR6'.out.free 3
        have q4:=HR6'.out.cell (j:=4) rfl
        have f4:=HR6'.out.free 4
        have q5:=HR6'.out.cell (j:=5) rfl
        have f5:=HR6'.out.free 5
        have q6:=HR6'.out.cell (j:=6) rfl
        have f6:=HR6'.out.free 6
        go_wp2_with fail
        (try simp only [Exit.inBlock,Exit.then])
        have hz9:=blk_seven HR6'.out (.int .i64 0) (.int .i64 0) (.int .i64 0) (.int .i64 0) (.slice none 0 0) (.string ⟨#[]⟩) (.slice none 0 0)
        have hg9:=grown_seven w6 w.heap.size (.int .i64 0) (.int .i64 0) (.int .i64 0) (.int .i64 0) (.slice none 0 0) (.string ⟨#[]⟩) (.slice none 0 0)
        have HB9:=Lib.hid (HB6.out.grown hg9 HB6.out.size (fun q e=>by have:=Option.some.inj e; omega))
        refine bodyPost_ret (v:=.tuple #[.agg #[.int .i64 0,.int .i64 0,.int .i64 0,.int .i64 0,.slice none 0 0,.string ⟨#[]⟩,.slice none 0 0],.int .i64 1]) ?_ rfl ?_
        ·exact results_row_tmp (p:=2) (u:=3) rfl _ _ w.heap.size 42 _ (0,0) _ rfl hz9 Tryz.underlying42 rfl (by kernel_rfl)
        ·rw [HZ9.out]; exact retH_zero _ HB9.out
      | true =>
        have HXR:Hid (x=if rightH (⟨N0,N1,N2,N3,g6.l.map recCut,S4,g5.l.map (fun x=>cl x.n)⟩:Hd)=true then ((⟨N0,N1,N2,N3,g6.l.map recCut,S4,g5.l.map (fun x=>cl x.n)⟩:Hd),0) else (Hd.zero,1)):=Lib.hid (by
         rw [hx.out]
         unfold readHN
         by_cases hq:rightH (⟨N0,N1,N2,N3,g6.l.map recCut,S4,g5.l.map (fun x=>cl x.n)⟩:Hd)=true
         ·rw [if_pos hq,if_pos (HNUM.out.2 ⟨rfl,rfl,hq⟩),HCUT.out]
         ·rw [if_neg hq,if_neg (fun h=>hq (HNUM.out.1 h).2.2)])
        obtain⟨rfl,hro⟩:=HRO.out (by trivial)
        obtain⟨rfl,hvo⟩:=HVO5.out (by trivial)
        replace HRO:=Lib.hid hro
        replace HVO5:=Lib.hid hvo
        have HK6:Hid (g6.k=3):=Lib.hid (by have h:=HB3E.out.symm; rw [Bool.and_eq_true,decide_eq_true_eq] at h; exact h.1)
        have HRA:Hid (g6.l.all recAllB=true):=Lib.hid (by have h:=HB3E.out.symm; rw [Bool.and_eq_true] at h; exact h.2)
        have HC63:Hid (in63 N0∧in63 N1∧in63 N2∧in63 N3):=Lib.hid (by rw [HNN.out.1,HNN.out.2.1,HNN.out.2.2.1,HNN.out.2.2.2]; exact⟨cl63 _,cl63 _,cl63 _,cl63 _⟩)
        clear hx HNUM HCUT hro hvo HNN HNM HNB HE HE6 HR6 HBE HB3E
        have HHD:Hid (HdAt w6 (⟨N0,N1,N2,N3,g6.l.map recCut,S4,g5.l.map (fun x=>cl x.n)⟩:Hd) ra (g6.l.map recCut).length rc va5 (g5.l.map (fun x=>cl x.n)).length vc5):=Lib.hid (by
         obtain⟨a,c,he,hn,hsl,-,hcap,-⟩:=Enc.own_sl (E:=rcE) (own_under HRO.out HKB.out)
         cases he
         refine⟨hsl,SlAt.ofOwn (own_under HVO5.out HKB.out),hcap,?_,?_,?_,?_,?_,?_⟩
         ·rw [List.length_map]; have:=HL6.out; omega
         ·rw [List.length_map]; have:=HL5.out; omega
         ·intro r hr
          obtain⟨y,hy,rfl⟩:=List.mem_map.1 hr
          have hn:=of_decide_eq_true (List.all_eq_true.1 HRA.out y hy)
          have h1:=txt_len (fld y 2) hn.2.2.2.2
          have h2:=mem_len (fld_mem (v:=y) (i:=2) (by rw [hn.2.1]; decide))
          have h3:=all_len y hn.1
          have h4:=mem_len hy
          have h5:=all_len g6 HK6.out
          have h6:=HT6.out
          have hsz:(fld y 2).s.size≤140737488355328:=by omega
          exact⟨hsz,cl63 _,cl63 _⟩
         ·have h1:=txt_len g4 HK45.out.1
          have h2:=HT4.out
          show S4.size≤_
          rw [HS4.out]
          omega
         ·exact⟨HC63.out.1,HC63.out.2.1,HC63.out.2.2.1,HC63.out.2.2.2⟩
         ·intro z hz
          obtain⟨y,hy,rfl⟩:=List.mem_map.1 hz
          exact cl63 _)
        have HAR:Hid (∀ y,ra=some y→w.heap.size≤y.block∧w1.heap.size≤y.block):=Lib.hid (fun y hy=>by
         obtain⟨a,c,he,hn,-,hsl,-,-⟩:=Enc.own_sl (E:=rcE) HRO.out
         cases he
         have h1:=hsl y hy
         have:=HW1.out
         exact⟨by omega,by omega⟩)
        have HAV:Hid (∀ y,va5=some y→w.heap.size≤y.block∧w1.heap.size≤y.block):=Lib.hid (fun y hy=>by
         obtain⟨a,n,c,he,-,hsl,-⟩:=own_slice HVO5.out
         cases he
         have h1:=hsl y hy
         have:=HW1.out
         exact⟨by omega,by omega⟩)
        have hright:=Lib.hid (show Calls Tryz.prog 23 #[.agg #[.int .i64 N0,.int .i64 N1,.int .i64 N2,.int .i64 N3,.slice ra (g6.l.map recCut).length rc,.string S4,.slice va5 (g5.l.map (fun x=>cl x.n)).length vc5]] w6 _ from wright_any (⟨N0,N1,N2,N3,g6.l.map recCut,S4,g5.l.map (fun x=>cl x.n)⟩:Hd) ra _ rc va5 _ vc5 w6 HHD.out (HT.out _ HB6.out) _ (Lib.hid rfl))
        generalize (g6.l.map recCut).length=rn' at *
        generalize (g5.l.map (fun x=>cl x.n)).length=vm' at *
        have x0:=HM6.out.cell (j:=0) rfl
        have x1:=HM6.out.cell (j:=1) rfl
        have x2:=HM6.out.cell (j:=2) rfl
        have x3:=HM6.out.cell (j:=3) rfl
        have x4:=HM6.out.cell (j:=4) rfl
        have x5:=HM6.out.cell (j:=5) rfl
        have x6:=HM6.out.cell (j:=6) rfl
        go_wp2_with fail
        refine hright.out.mono ?_
        rintro e w7 ⟨rfl,hb7⟩
        have HB7:=Lib.hid (below_then HB6.out hb7 HB6.out.size)
        have HR7:=Lib.hid (HR6'.out.keep hb7)
        have HM7:=Lib.hid (HM6.out.keep hb7)
        have HHD7:=Lib.hid (HHD.out.keep hb7)
        have hs7:=hb7.size
        have hw1:=HW1.out
        clear x0 x1 x2 x3 x4 x5 x6 hb7 hright HR6' HM6 HHD HB6
        cases hr:rightH (⟨N0,N1,N2,N3,g6.l.map recCut,S4,g5.l.map (fun x=>cl x.n)⟩:Hd) with
        | false =>
          have HZ9:Hid (x=(Hd.zero,1)):=Lib.hid (by rw [HXR.out,hr]; rfl)
          clear HXR hr
          have q0:=HR7.out.cell (j:=0) rfl
          have f0:=HR7.out.free 0
          have q1:=HR7.out.cell (j:=1) rfl
          have f1:=HR7.out.free 1
          have q2:=HR7.out.cell (j:=2) rfl
          have f2:=HR7.out.free 2
          have q3:=HR7.out.cell (j:=3) rfl
          have f3:=HR7.out.free 3
          have q4:=HR7.out.cell (j:=4) rfl
          have f4:=HR7.out.free 4
          have q5:=HR7.out.cell (j:=5) rfl
          have f5:=HR7.out.free 5
          have q6:=HR7.out.cell (j:=6) rfl
          have f6:=HR7.out.free 6
          go_wp2_with fail
          (try simp only [Exit.inBlock,Exit.then])
          have hz9:=blk_seven HR7.out (.int .i64 0) (.int .i64 0) (.int .i64 0) (.int .i64 0) (.slice none 0 0) (.string ⟨#[]⟩) (.slice none 0 0)
          have hg9:=grown_seven w7 w.heap.size (.int .i64 0) (.int .i64 0) (.int .i64 0) (.int .i64 0) (.slice none 0 0) (.string ⟨#[]⟩) (.slice none 0 0)
          have HB9:=Lib.hid (HB7.out.grown hg9 HB7.out.size (fun q e=>by have:=Option.some.inj e; omega))
          refine bodyPost_ret (v:=.tuple #[.agg #[.int .i64 0,.int .i64 0,.int .i64 0,.int .i64 0,.slice none 0 0,.string ⟨#[]⟩,.slice none 0 0],.int .i64 1]) ?_ rfl ?_
          ·exact results_row_tmp (p:=2) (u:=3) rfl _ _ w.heap.size 42 _ (0,0) _ rfl hz9 Tryz.underlying42 rfl (by kernel_rfl)
          ·rw [HZ9.out]; exact retH_zero _ HB9.out
        | true =>
          have HZ9:Hid (x=((⟨N0,N1,N2,N3,g6.l.map recCut,S4,g5.l.map (fun x=>cl x.n)⟩:Hd),0)):=Lib.hid (by rw [HXR.out,hr]; rfl)
          clear HXR hr
          have x0:=HM7.out.cell (j:=0) rfl
          have x1:=HM7.out.cell (j:=1) rfl
          have x2:=HM7.out.cell (j:=2) rfl
          have x3:=HM7.out.cell (j:=3) rfl
          have x4:=HM7.out.cell (j:=4) rfl
          have x5:=HM7.out.cell (j:=5) rfl
          have x6:=HM7.out.cell (j:=6) rfl
          have q0:=HR7.out.cell (j:=0) rfl
          have f0:=HR7.out.free 0
          have q1:=HR7.out.cell (j:=1) rfl
          have f1:=HR7.out.free 1
          have q2:=HR7.out.cell (j:=2) rfl
          have f2:=HR7.out.free 2
          have q3:=HR7.out.cell (j:=3) rfl
          have f3:=HR7.out.free 3
          have q4:=HR7.out.cell (j:=4) rfl
          have f4:=HR7.out.free 4
          have q5:=HR7.out.cell (j:=5) rfl
          have f5:=HR7.out.free 5
          have q6:=HR7.out.cell (j:=6) rfl
          have f6:=HR7.out.free 6
          go_wp2_with fail
          clear x0 x1 x2 x3 x4 x5 x6
          (try simp only [Exit.inBlock,Exit.then])
          have hz9:=blk_seven HR7.out (.int .i64 N0) (.int .i64 N1) (.int .i64 N2) (.int .i64 N3) (.slice ra rn' rc) (.string S4) (.slice va5 vm' vc5)
          have hg9:=grown_seven w7 w.heap.size (.int .i64 N0) (.int .i64 N1) (.int .i64 N2) (.int .i64 N3) (.slice ra rn' rc) (.string S4) (.slice va5 vm' vc5)
          have HB9:=Lib.hid (HB7.out.grown hg9 HB7.out.size (fun q e=>by have:=Option.some.inj e; omega))
          refine bodyPost_ret (v:=.tuple #[.agg #[.int .i64 N0,.int .i64 N1,.int .i64 N2,.int .i64 N3,.slice ra rn' rc,.string S4,.slice va5 vm' vc5],.int .i64 0]) ?_ rfl ?_
          ·exact results_row_tmp (p:=2) (u:=3) rfl _ _ w.heap.size 42 _ (0,0) _ rfl hz9 Tryz.underlying42 rfl (by kernel_rfl)
          ·rw [HZ9.out]; exact⟨ra,rn',rc,va5,vm',vc5,rfl,hdAt_kept HHD7.out hg9 (fun y e he=>by have:=(HAR.out y e).2; have:=Option.some.inj he; omega) (fun y e he=>by have:=(HAV.out y e).2; have:=Option.some.inj he; omega),HB9.out,fun y e=>(HAR.out y e).1,fun y e=>(HAV.out y e).1⟩
   ·have HZ9:Hid (x=(Hd.zero,1)):=Lib.hid (by
     rw [hx.out]; unfold readHN; rw [if_neg]
     rintro⟨⟨-,-,h1,h2,-⟩,-⟩
     exact hc ⟨h1,h2⟩)
    have HCC:=Lib.hid hc
    generalize g4.k=k4 at *
    generalize g5.k=k5 at *
    clear hx hc r5 r6 e40 e42 e50 e51 e52 e53 e60 e61 e62 e63 HNB HNM
    have q0:=HR3.out.cell (j:=0) rfl
    have f0:=HR3.out.free 0
    have q1:=HR3.out.cell (j:=1) rfl
    have f1:=HR3.out.free 1
    have q2:=HR3.out.cell (j:=2) rfl
    have f2:=HR3.out.free 2
    have q3:=HR3.out.cell (j:=3) rfl
    have f3:=HR3.out.free 3
    have q4:=HR3.out.cell (j:=4) rfl
    have f4:=HR3.out.free 4
    have q5:=HR3.out.cell (j:=5) rfl
    have f5:=HR3.out.free 5
    have q6:=HR3.out.cell (j:=6) rfl
    have f6:=HR3.out.free 6
    go_wp2_with fail
    all_goals first
     | (exfalso; have hk:=HCC.out; (try simp only [bne_eq_false_iff_eq] at *); omega)
     | (
       (try simp only [Exit.inBlock,Exit.then])
       have hz9:=blk_seven HR3.out (.int .i64 0) (.int .i64 0) (.int .i64 0) (.int .i64 0) (.slice none 0 0) (.string ⟨#[]⟩) (.slice none 0 0)
       have hg9:=grown_seven w3 w.heap.size (.int .i64 0) (.int .i64 0) (.int .i64 0) (.int .i64 0) (.slice none 0 0) (.string ⟨#[]⟩) (.slice none 0 0)
       have HB9:=Lib.hid (HB3.out.grown hg9 HB3.out.size (fun q e=>by have:=Option.some.inj e; omega))
       refine bodyPost_ret (v:=.tuple #[.agg #[.int .i64 0,.int .i64 0,.int .i64 0,.int .i64 0,.slice none 0 0,.string ⟨#[]⟩,.slice none 0 0],.int .i64 1]) ?_ rfl ?_
       ·exact results_row_tmp (p:=2) (u:=3) rfl _ _ w.heap.size 42 _ (0,0) _ rfl hz9 Tryz.underlying42 rfl (by kernel_rfl)
       ·rw [HZ9.out]; exact retH_zero _ HB9.out
       )
  ·have HZ9:Hid (x=(Hd.zero,1)):=Lib.hid (by
    rw [hx.out]; unfold readHN; rw [if_neg]
    rintro⟨⟨-,h2,-⟩,-⟩
    exact hl7 h2)
   have hl7b:((vl.length:Int) != 7)=true:=by simp; omega
   clear hx hl7 hnm hnums
   have q0:=HR3.out.cell (j:=0) rfl
   have f0:=HR3.out.free 0
   have q1:=HR3.out.cell (j:=1) rfl
   have f1:=HR3.out.free 1
   have q2:=HR3.out.cell (j:=2) rfl
   have f2:=HR3.out.free 2
   have q3:=HR3.out.cell (j:=3) rfl
   have f3:=HR3.out.free 3
   have q4:=HR3.out.cell (j:=4) rfl
   have f4:=HR3.out.free 4
   have q5:=HR3.out.cell (j:=5) rfl
   have f5:=HR3.out.free 5
   have q6:=HR3.out.cell (j:=6) rfl
   have f6:=HR3.out.free 6
   go_wp2_with fail
   (try simp only [Exit.inBlock,Exit.then])
   have hz9:=blk_seven HR3.out (.int .i64 0) (.int .i64 0) (.int .i64 0) (.int .i64 0) (.slice none 0 0) (.string ⟨#[]⟩) (.slice none 0 0)
   have hg9:=grown_seven w3 w.heap.size (.int .i64 0) (.int .i64 0) (.int .i64 0) (.int .i64 0) (.slice none 0 0) (.string ⟨#[]⟩) (.slice none 0 0)
   have HB9:=Lib.hid (HB3.out.grown hg9 HB3.out.size (fun q e=>by have:=Option.some.inj e; omega))
   refine bodyPost_ret (v:=.tuple #[.agg #[.int .i64 0,.int .i64 0,.int .i64 0,.int .i64 0,.slice none 0 0,.string ⟨#[]⟩,.slice none 0 0],.int .i64 1]) ?_ rfl ?_
   ·exact results_row_tmp (p:=2) (u:=3) rfl _ _ w.heap.size 42 _ (0,0) _ rfl hz9 Tryz.underlying42 rfl (by kernel_rfl)
   ·rw [HZ9.out]; exact retH_zero _ HB9.out
theorem wget_any (s:ByteArray) (w:World) (hm:s.size≤9223372036854775807) (htab:Lib.TabIs Tryz.prog w "internal/strconv.uint64pow10" .u64 Lib.pow10Tab):Calls Tryz.prog 26 #[.string s] w (RetH w (getH s)):=by
 unfold getH
 by_cases hb:(getL s).bad≠0
 ·rw [if_pos hb]
  exact wget_bad s w hm hb
 ·rw [if_neg hb]
  have hb:(getL s).bad=0:=Classical.byContradiction hb
  exact wget_go s w hm htab hb _ rfl _ (Lib.hid (readHN_eq _).symm)
end Go.Proofs.YtlpgbmaoenncjaaGreatDoor

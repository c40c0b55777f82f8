/-
  A parameter that is a state (Hard): what it holds, read off its datum; without a condition but for the reach. (Written by wip/mkoph.py.)
  A parameter that is a slice of turns (a state, and two numbers), opened; without a condition but for the reach.
-/
import Derived.Test.YtlpgbmaoenncjaaGreatDoorWkA
import Derived.Test.YtlpgbmaoenncjaaGreatDoorGen
namespace Go.Proofs.YtlpgbmaoenncjaaGreatDoor
open Go.RowKit Go.ChangeShapes Go.WideShapes Go.Deep Go.Joins
set_option linter.unusedVariables false
theorem rcStruct:structOf Tryz.prog 67 = some [(3,0),(3,1),(9,2)]:=by kernel_rfl
def Rc.small (r:Rc):Prop:=r.data.size≤140737488355328∧in63 r.term∧in63 r.kind
set_option maxRecDepth 100000 in
theorem read_rec {H:Type}{enc:TypeId × Value→H}{w:World}{base:Nat}{spare:Nat→Bool}{held:Bool}(n:Nat) (cs:List Value) (y:DataW H × List MemPlace)
 (h:DataW.trod enc Tryz.prog w base spare held n 67 cs=some y) (hl:cs.length=rcE.k) (hs:Small Tryz.prog 67 y.1):∃ x,cs=rcE.enc x∧x.small:=by
 have hl:cs.length=3:=hl
 obtain⟨_,hfs⟩:=trod_fieldS rcStruct h hs
 obtain⟨n0,y0,t0,s0⟩:=hfs 0 _ _ rfl
 obtain⟨n1,y1,t1,s1⟩:=hfs 1 _ _ rfl
 obtain⟨n2,y2,t2,s2⟩:=hfs 2 _ _ rfl
 rw [cellsInt,one_of (by omega)] at t0 t1
 rw [cellsStr,one_of (by omega)] at t2
 obtain⟨f,e0,_,w0⟩:=DataW.trod_int Tryz.underlying3 t0
 obtain⟨g,e1,_,w1⟩:=DataW.trod_int Tryz.underlying3 t1
 obtain⟨s,e2,h2,_⟩:=DataW.trod_string Tryz.underlying9 t2
 rw [h2] at s2
 have z2:=small_str s2
 simp only [List.cons.injEq,and_true] at e0 e1 e2
 refine⟨⟨f,g,s⟩,?_,z2,bounds_i64 w0,bounds_i64 w1⟩
 match cs,hl with
 | [c0,c1,c2],_=>simp at e0 e1 e2; subst e0 e1 e2; rfl
theorem open_recsF {H:Type}{enc:TypeId × Value→H}{w:World}{base:Nat}{spare:Nat→Bool}{held:Bool}{fuel:Nat}{v:Value}{y:DataW H × List MemPlace}
 (h:DataW.trod enc Tryz.prog w base spare held fuel 22 [v]=some y) (hs:Small Tryz.prog 22 y.1):∃ a n c z,v = .slice a n c∧rcE.Sl w a n z∧n≤c∧c≤maxLen∧n≤100000000000000∧∀ x∈z,x.small:=by
 obtain⟨a,n,c,e⟩:=slice_form Tryz.underlying22 h
 simp only [List.cons.injEq,and_true] at e
 subst e
 obtain⟨hb,l,h1,h2,h3,h4,h5⟩:=open_rows_small rcE Rc.small Tryz.underlying22 (by kernel_rfl) read_rec h hs
 rw [show Tryz.prog.bytesOf 67 = 32 from by kernel_rfl] at hb
 have:=reachBytes_lt
 exact⟨a,n,c,l,rfl,h1,h2,h3,by omega,h5⟩
theorem cellsRecs:Tryz.prog.cellsOf 22 = 1:=by kernel_rfl
theorem lgStruct:structOf Tryz.prog 40 = some [(3,0),(3,1),(22,2)]:=by kernel_rfl
theorem hdStruct:structOf Tryz.prog 42 = some [(3,0),(3,1),(40,2),(9,5),(23,6)]:=by kernel_rfl
theorem cellsLog:Tryz.prog.cellsOf 40 = 3:=by kernel_rfl
end Go.Proofs.YtlpgbmaoenncjaaGreatDoor

namespace Go.Proofs.YtlpgbmaoenncjaaGreatDoor
open Go.RowKit Go.ChangeShapes Go.WideShapes Go.Deep Go.Joins
set_option linter.unusedVariables false
structure Tn where
 st:Hd
 ar:Option Addr
 nr:Nat
 cr:Nat
 av:Option Addr
 nv:Nat
 cv:Nat
 left:Int
 keep:Int
def tnE:Enc Tn where
 k:=9
 enc o:=[.int .i64 o.st.term,.int .i64 o.st.vote,.int .i64 o.st.base,.int .i64 o.st.bt,.slice o.ar o.nr o.cr,.string o.st.snap,.slice o.av o.nv o.cv,.int .i64 o.left,.int .i64 o.keep]
 len _:=rfl
 one o u hu:=by
  simp at hu
  rcases hu with rfl | rfl | rfl | rfl | rfl | rfl | rfl | rfl | rfl <;> rfl
 pos:=by decide
def Tn.ok (w:World) (o:Tn):Prop:=HdAt w o.st o.ar o.nr o.cr o.av o.nv o.cv∧in63 o.left∧in63 o.keep
theorem tnStruct:structOf Tryz.prog 61 = some [(42,0),(3,7),(3,8)]:=by kernel_rfl
theorem cellsHard:Tryz.prog.cellsOf 42 = 7:=by kernel_rfl
set_option maxRecDepth 100000 in
set_option linter.constructorNameAsVariable false in
theorem read_turn {H:Type}{enc:TypeId × Value→H}{w:World}{base:Nat}{spare:Nat→Bool}{held:Bool}(n:Nat) (cs:List Value) (y:DataW H × List MemPlace)
 (h:DataW.trod enc Tryz.prog w base spare held n 61 cs=some y) (hl:cs.length=tnE.k) (hs:Small Tryz.prog 61 y.1):∃ x,cs=tnE.enc x∧x.ok w:=by
 have hl:cs.length=9:=hl
 match cs,hl with
 | [c0,c1,c2,c3,c4,c5,c6,c7,c8],_ =>
 obtain⟨_,hft⟩:=trod_fieldS tnStruct h hs
 obtain⟨na,ya,hf,hs0⟩:=hft 0 _ _ rfl
 obtain⟨nb,yb,tb,sb⟩:=hft 1 _ _ rfl
 obtain⟨nc,yc,tc,sc⟩:=hft 2 _ _ rfl
 rw [cellsHard] at hf
 rw [cellsInt] at tb tc
 simp only [List.drop,List.take] at hf tb tc
 obtain⟨mb,eb,_,wb⟩:=DataW.trod_int Tryz.underlying3 tb
 obtain⟨mc,ec,_,wc⟩:=DataW.trod_int Tryz.underlying3 tc
 obtain⟨_,hfs⟩:=trod_fieldS hdStruct hf hs0
 obtain⟨n0,y0,t0,s0⟩:=hfs 0 _ _ rfl
 obtain⟨n1,y1,t1,s1⟩:=hfs 1 _ _ rfl
 obtain⟨n2,y2,t2,s2⟩:=hfs 2 _ _ rfl
 obtain⟨n3,y3,t3,s3⟩:=hfs 3 _ _ rfl
 obtain⟨n4,y4,t4,s4⟩:=hfs 4 _ _ rfl
 rw [cellsInt] at t0 t1
 rw [cellsLog] at t2
 rw [cellsStr] at t3
 rw [cellsInts] at t4
 simp only [List.drop,List.take] at t0 t1 t2 t3 t4
 obtain⟨_,hfl⟩:=trod_fieldS lgStruct t2 s2
 obtain⟨n5,y5,t5,s5⟩:=hfl 0 _ _ rfl
 obtain⟨n6,y6,t6,s6⟩:=hfl 1 _ _ rfl
 obtain⟨n7,y7,t7,s7⟩:=hfl 2 _ _ rfl
 rw [cellsInt] at t5 t6
 rw [cellsRecs] at t7
 simp only [List.drop,List.take] at t5 t6 t7
 obtain⟨m0,e0,_,w0⟩:=DataW.trod_int Tryz.underlying3 t0
 obtain⟨m1,e1,_,w1⟩:=DataW.trod_int Tryz.underlying3 t1
 obtain⟨m5,e5,_,w5⟩:=DataW.trod_int Tryz.underlying3 t5
 obtain⟨m6,e6,_,w6⟩:=DataW.trod_int Tryz.underlying3 t6
 obtain⟨ar,nr,cr,rs,e7,h7,c7,_,b7,d7⟩:=open_recsF t7 s7
 obtain⟨m9,e9,g9,_⟩:=DataW.trod_string Tryz.underlying9 t3
 obtain⟨av,nv,cv,vs,e10,h10,_,_,b10,d10⟩:=open_intsF t4 s4
 rw [g9] at s3
 have z9:=small_str s3
 simp only [List.cons.injEq,and_true] at e0 e1 e5 e6 e9 eb ec
 subst e0 e1 e5 e6 e7 e9 e10 eb ec
 exact⟨⟨⟨m0,m1,m5,m6,rs,m9,vs⟩,ar,nr,cr,av,nv,cv,mb,mc⟩,rfl,
  { recs:=h7,voters:=h10,nr:=b7,nv:=b10,data:=fun r hr=>⟨(d7 r hr).1,(d7 r hr).2.1,(d7 r hr).2.2⟩,snap:=z9,
    nums:=⟨bounds_i64 w0,bounds_i64 w1,bounds_i64 w5,bounds_i64 w6⟩,vots:=d10,cap:=c7 },bounds_i64 wb,bounds_i64 wc⟩
set_option maxRecDepth 100000 in
set_option linter.constructorNameAsVariable false in
theorem open_turns {H:Type}{enc:TypeId × Value→H}{w:World}{base b0:Nat}{spare:Nat→Bool}{held:Bool}{r:Reach}{v:Value}{x:DataW H}{p:List MemPlace}
 (hv:Value.okWide Tryz.prog w r b0 59 v) (h:DataW.Trod enc Tryz.prog w base spare held 59 v x p) (hs:Small Tryz.prog 59 x):∃ a n c z,v = .slice a n c∧tnE.Sl w a n z∧(∀ o∈z,o.ok w)∧n≤100000000000000:=by
 obtain⟨a,n,c,rfl⟩:=okWide_slice Tryz.underlying59 hv
 obtain⟨fuel,hf⟩:=h
 obtain⟨hb,l,h1,h2,h3,h4,h5⟩:=open_rows_small tnE (Tn.ok w) Tryz.underlying59 (by kernel_rfl) read_turn hf hs
 rw [show Tryz.prog.bytesOf 61 = 112 from by kernel_rfl] at hb
 have:=reachBytes_lt
 exact⟨a,n,c,l,rfl,h1,h5,by omega⟩
end Go.Proofs.YtlpgbmaoenncjaaGreatDoor

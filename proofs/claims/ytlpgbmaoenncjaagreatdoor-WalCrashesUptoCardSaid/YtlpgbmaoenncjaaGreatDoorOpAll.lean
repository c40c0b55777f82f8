/-
  A parameter that is a state (Hard): what it holds, read off its datum; without a condition but for the reach. (Written by wip/mkoph.py.)
  A parameter that is a slice of numbers, opened; without a condition but for the reach.
-/
import Derived.Test.YtlpgbmaoenncjaaGreatDoorWkA
import Derived.Test.YtlpgbmaoenncjaaGreatDoorGen
namespace Go.Proofs.YtlpgbmaoenncjaaGreatDoor
open Go.RowKit Go.ChangeShapes Go.WideShapes Go.Deep Go.Joins
set_option linter.unusedVariables false
theorem rcStruct:structOf Tryz.prog 67 = some [(3,0),(3,1),(9,2)]:=by kernel_rfl
def Rc.small (r:Rc):Prop:=r.data.size≤140737488355328∧in63 r.term∧in63 r.kind
set_option maxRecDepth 100000 in
theorem read_rec {H:Type}{enc:TypeId × Value→H}{w:World}{base:Nat}{spare:Nat→Bool}{held:Bool}(n:Nat) (cs:List Value) (y:DataW H × List MemPlace)
 (h:DataW.trod enc Tryz.prog w base spare held n 67 cs=some y) (hl:cs.length=rcE.k) (hs:Small Tryz.prog 67 y.1):∃ x,cs=rcE.enc x∧x.small:=by
 have hl:cs.length=3:=hl
 obtain⟨_,hfs⟩:=trod_fieldS rcStruct h hs
 obtain⟨n0,y0,t0,s0⟩:=hfs 0 _ _ rfl
 obtain⟨n1,y1,t1,s1⟩:=hfs 1 _ _ rfl
 obtain⟨n2,y2,t2,s2⟩:=hfs 2 _ _ rfl
 rw [cellsInt,one_of (by omega)] at t0 t1
 rw [cellsStr,one_of (by omega)] at t2
 obtain⟨f,e0,_,w0⟩:=DataW.trod_int Tryz.underlying3 t0
 obtain⟨g,e1,_,w1⟩:=DataW.trod_int Tryz.underlying3 t1
 obtain⟨s,e2,h2,_⟩:=DataW.trod_string Tryz.underlying9 t2
 rw [h2] at s2
 have z2:=small_str s2
 simp only [List.cons.injEq,and_true] at e0 e1 e2
 refine⟨⟨f,g,s⟩,?_,z2,bounds_i64 w0,bounds_i64 w1⟩
 match cs,hl with
 | [c0,c1,c2],_=>simp at e0 e1 e2; subst e0 e1 e2; rfl
theorem open_recsF {H:Type}{enc:TypeId × Value→H}{w:World}{base:Nat}{spare:Nat→Bool}{held:Bool}{fuel:Nat}{v:Value}{y:DataW H × List MemPlace}
 (h:DataW.trod enc Tryz.prog w base spare held fuel 22 [v]=some y) (hs:Small Tryz.prog 22 y.1):∃ a n c z,v = .slice a n c∧rcE.Sl w a n z∧n≤c∧c≤maxLen∧n≤100000000000000∧∀ x∈z,x.small:=by
 obtain⟨a,n,c,e⟩:=slice_form Tryz.underlying22 h
 simp only [List.cons.injEq,and_true] at e
 subst e
 obtain⟨hb,l,h1,h2,h3,h4,h5⟩:=open_rows_small rcE Rc.small Tryz.underlying22 (by kernel_rfl) read_rec h hs
 rw [show Tryz.prog.bytesOf 67 = 32 from by kernel_rfl] at hb
 have:=reachBytes_lt
 exact⟨a,n,c,l,rfl,h1,h2,h3,by omega,h5⟩
theorem cellsRecs:Tryz.prog.cellsOf 22 = 1:=by kernel_rfl
theorem array7 {α:Type}{cs:Array α}(h:cs.size=7):∃ c0 c1 c2 c3 c4 c5 c6,cs=#[c0,c1,c2,c3,c4,c5,c6]:=by
 obtain⟨l⟩:=cs
 match l,h with
 | [c0,c1,c2,c3,c4,c5,c6],_=>exact⟨c0,c1,c2,c3,c4,c5,c6,rfl⟩
theorem lgStruct:structOf Tryz.prog 40 = some [(3,0),(3,1),(22,2)]:=by kernel_rfl
theorem hdStruct:structOf Tryz.prog 42 = some [(3,0),(3,1),(40,2),(9,5),(23,6)]:=by kernel_rfl
theorem cellsLog:Tryz.prog.cellsOf 40 = 3:=by kernel_rfl
set_option maxRecDepth 100000 in
set_option linter.constructorNameAsVariable false in
theorem open_hard {H:Type}{enc:TypeId × Value→H}{w:World}{base b0:Nat}{spare:Nat→Bool}{held:Bool}{r:Reach}{v:Value}{x:DataW H}{p:List MemPlace}
 (hv:Value.okWide Tryz.prog w r b0 42 v) (h:DataW.Trod enc Tryz.prog w base spare held 42 v x p) (hs:Small Tryz.prog 42 x):∃ m ar nr cr av nv cv,v=Hd.val m ar nr cr av nv cv∧HdAt w m ar nr cr av nv cv:=by
 obtain⟨cs,rfl,hsz⟩:=okWide_struct Tryz.underlying42 hv
 obtain⟨c0,c1,c2,c3,c4,c5,c6,rfl⟩:=array7 (hsz.trans (by kernel_rfl))
 obtain⟨fuel,hf⟩:=h
 obtain⟨_,hfs⟩:=trod_fieldS hdStruct hf hs
 obtain⟨n0,y0,t0,s0⟩:=hfs 0 _ _ rfl
 obtain⟨n1,y1,t1,s1⟩:=hfs 1 _ _ rfl
 obtain⟨n2,y2,t2,s2⟩:=hfs 2 _ _ rfl
 obtain⟨n3,y3,t3,s3⟩:=hfs 3 _ _ rfl
 obtain⟨n4,y4,t4,s4⟩:=hfs 4 _ _ rfl
 rw [cellsInt] at t0 t1
 rw [cellsLog] at t2
 rw [cellsStr] at t3
 rw [cellsInts] at t4
 simp only [Value.cells,List.drop,List.take] at t0 t1 t2 t3 t4
 obtain⟨_,hfl⟩:=trod_fieldS lgStruct t2 s2
 obtain⟨n5,y5,t5,s5⟩:=hfl 0 _ _ rfl
 obtain⟨n6,y6,t6,s6⟩:=hfl 1 _ _ rfl
 obtain⟨n7,y7,t7,s7⟩:=hfl 2 _ _ rfl
 rw [cellsInt] at t5 t6
 rw [cellsRecs] at t7
 simp only [List.drop,List.take] at t5 t6 t7
 obtain⟨m0,e0,_,w0⟩:=DataW.trod_int Tryz.underlying3 t0
 obtain⟨m1,e1,_,w1⟩:=DataW.trod_int Tryz.underlying3 t1
 obtain⟨m5,e5,_,w5⟩:=DataW.trod_int Tryz.underlying3 t5
 obtain⟨m6,e6,_,w6⟩:=DataW.trod_int Tryz.underlying3 t6
 obtain⟨ar,nr,cr,rs,e7,h7,c7,_,b7,d7⟩:=open_recsF t7 s7
 obtain⟨m9,e9,g9,_⟩:=DataW.trod_string Tryz.underlying9 t3
 obtain⟨av,nv,cv,vs,e10,h10,_,_,b10,d10⟩:=open_intsF t4 s4
 rw [g9] at s3
 have z9:=small_str s3
 simp only [List.cons.injEq,and_true] at e0 e1 e5 e6 e9
 subst e0 e1 e5 e6 e7 e9 e10
 exact⟨⟨m0,m1,m5,m6,rs,m9,vs⟩,ar,nr,cr,av,nv,cv,rfl,
  { recs:=h7,voters:=h10,nr:=b7,nv:=b10,data:=fun r hr=>⟨(d7 r hr).1,(d7 r hr).2.1,(d7 r hr).2.2⟩,snap:=z9,
    nums:=⟨bounds_i64 w0,bounds_i64 w1,bounds_i64 w5,bounds_i64 w6⟩,vots:=d10,cap:=c7 }⟩
end Go.Proofs.YtlpgbmaoenncjaaGreatDoor

namespace Go.Proofs.YtlpgbmaoenncjaaGreatDoor
open Go.RowKit Go.ChangeShapes Go.WideShapes Go.Deep Go.Joins
set_option linter.unusedVariables false
set_option maxRecDepth 100000 in
set_option linter.constructorNameAsVariable false in
theorem open_ints2 {H:Type}{enc:TypeId × Value→H}{w:World}{base b0:Nat}{spare:Nat→Bool}{held:Bool}{r:Reach}{v:Value}{x:DataW H}{p:List MemPlace}
 (hv:Value.okWide Tryz.prog w r b0 23 v) (h:DataW.Trod enc Tryz.prog w base spare held 23 v x p) (hs:Small Tryz.prog 23 x):∃ a n c z,v = .slice a n c∧SlAt w a n (i64s z)∧n≤100000000000000:=by
 obtain⟨a,n,c,rfl⟩:=okWide_slice Tryz.underlying23 hv
 obtain⟨fuel,hf⟩:=h
 obtain⟨a2,n2,c2,z,he,h1,-,-,h2,-⟩:=open_intsF hf hs
 cases he
 exact⟨a,n,c,z,rfl,h1,h2⟩
end Go.Proofs.YtlpgbmaoenncjaaGreatDoor

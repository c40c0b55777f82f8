/-
  The regions of net.Get that append (their order is drawn; they call the function value that reads a number); without a condition. (Written by wip/mkng.py.)
-/
import Derived.Test.YtlpgbmaoenncjaaGreatDoorNgA
import Derived.Test.YtlpgbmaoenncjaaGreatDoorGen
import Derived.Test.YtlpgbmaoenncjaaGreatDoorPvs
import Derived.Test.YtlpgbmaoenncjaaGreatDoorNmB
namespace Go.Proofs.YtlpgbmaoenncjaaGreatDoor
open Go.RowKit
set_option linter.unusedVariables false
theorem infoI:∃ i,Tryz.prog.info? 3 = some i∧i.zero=some (.int .i64 0)∧i.size=1∧i.bytes=8:=by
 have h:=infoInt
 cases hi:Tryz.prog.info? 3 with
 | none=>rw [hi] at h; cases h
 | some i =>
   rw [hi] at h
   simp only [Option.map_some,Option.some.injEq,Prod.mk.injEq] at h
   exact⟨i,rfl,h.1,h.2.1,h.2.2⟩
theorem infoRc:(Tryz.prog.info? 67).map (fun i=>(i.zero,i.size,i.bytes))=some (some (.agg #[.int .i64 0,.int .i64 0,.string ⟨#[]⟩]),3,32):=by kernel_rfl
theorem infoR:∃ i,Tryz.prog.info? 67 = some i∧i.zero=some (.agg #[.int .i64 0,.int .i64 0,.string ⟨#[]⟩])∧i.size=3∧i.bytes=32:=by
 have h:=infoRc
 cases hi:Tryz.prog.info? 67 with
 | none=>rw [hi] at h; cases h
 | some i =>
   rw [hi] at h
   simp only [Option.map_some,Option.some.injEq,Prod.mk.injEq] at h
   exact⟨i,rfl,h.1,h.2.1,h.2.2⟩
theorem own_sliceN {w:World}{base n size:Nat}{e:TypeId}{v:Value}{xs:List Value}(h:w.ownsRow base e size v n xs):∃ a c,v = .slice a n c:=by
 rcases h.2 with ⟨hv,h0⟩ | ⟨g,cap,cur,hv,_⟩
 ·exact⟨none,0,by rw [hv,h0]⟩
 ·exact⟨_,_,hv⟩
theorem own_kept {w w':World}{base r n size:Nat}{e:TypeId}{v:Value}{xs:List Value}(h:w.ownsRow base e size v n xs) (hg:w.grownBy w' (some r)) (hr:r<base):w'.ownsRow base e size v n xs:=by
 refine h.kept hg ?_
 by_cases hv:v.ownBlock=some r
 ·have:=(h.lt r hv).1; omega
 ·exact .inr hv
theorem own_under {w w':World}{base n size:Nat}{e:TypeId}{v:Value}{xs:List Value}(h:w.ownsRow base e size v n xs) (hb:Below w.heap.size w w'):w'.ownsRow base e size v n xs:=h.kept (grown_of_below hb none) (by cases hv:v.ownBlock <;> simp)
theorem flag_inj {w:World}{G:Nat}{a b:Bool}(h:FlagAt w G a) (h':FlagAt w G b):a=b:=by
 have:=h.symm.trans h'
 simpa using this
theorem grB {b:Nat}{w3 w w':World}(h:Below w3.heap.size w3 w) (hg:w.grownBy w' (some (b+1))) (hb:w3.heap.size≤b):Below w3.heap.size w3 w':=h.grown hg h.size (fun q e=>by have:=Option.some.inj e; omega)
theorem rowApp {w:World}{base size bytes:Nat}{e:TypeId}{z:Value}(i:TypeInfo) (hi:Tryz.prog.info? e=some i) (hz:i.zero=some z) (hsize:i.size=size) (hby:i.bytes=bytes) (hzs:z.cells.size=size) (hsz:0<size)
 {v:Value}{n:Nat}{xs:List Value}(hown:w.ownsRow base e size v n xs) (g:Nat) (news:List Value) (T t ty:TypeId) (ht:Tryz.prog.underlying t=some (.slice e)) (hg:w.heap[g]? = some (.cells news.toArray T (0,0))) (hl:news.length=size)
 (h1:∀ u∈news,u.oneCell'=true) (hn:n≤1000000) (hb:bytes≤1000) (hbase:base≤w.heap.size) :
 ∃ a3 c3 w',(Builtin.append_ #[t,t] ty #[v,.slice (some ⟨g,0,none⟩) 1 1]).run Tryz.prog w = .ok (.slice a3 (n+1) c3) w'∧w'.ownsRow base e size (.slice a3 (n+1) c3) (n+1) (xs++news)∧w.grownBy w' v.ownBlock:=by
 have hnews:∀ j y,news[j]? = some y→w.cell? ((⟨g,0,none⟩:Addr).add j)=some y:=by
  intro j y hj
  have:=(Lib.cell_of_heap hg j)
  rw [show (⟨g,0,none⟩:Addr).add j=⟨g,j,none⟩ by unfold Addr.add; split <;> simp_all]
  rw [this]
  simpa using hj
 have hm:(n+1)*bytes≤140737488355328:=Nat.le_trans (Nat.mul_le_mul (show n+1≤1000001 by omega) hb) (by decide)
 obtain⟨v',w',hr,h2,h3,h4⟩:=run_append_own (P:=Tryz.prog) w base t ty e i z size bytes ht hi hz hsize hby hzs hsz v n xs hown ⟨g,0,none⟩ 1 1 news (by rw [hl,Nat.one_mul]) hnews h1 (by unfold maxLen; omega) hm hbase
 obtain⟨a,c,rfl⟩:=own_sliceN h2
 exact⟨a,c,w',hr,h2,h3⟩
def ngvT (BM BX base:Nat) (k n:Int) (s:ByteArray) (xa:Option Addr) (xl xc:Nat) (g0:Bool) (va:Option Addr) (vc:Nat) (cs:List Value) (l:List Int) (w3 w1:World):Nat→Value→World→Prop
 | 0,v,w=>v = .pointer (some ⟨BM,10,none⟩)
 | 1,v,w=>v = .slice va l.length vc
 | 2,v,w=>v = .func (.func 43) #[] #[.pointer (some ⟨BM+1,0,none⟩)]
 | 3,v,w=>v = .agg #[.int .i64 k,.int .i64 n,.string s,.slice xa xl xc]
 | 4,v,w=>v = .int .i64 (cl n)∧FlagAt w (BM+1) (g0&&decide (k=1))
 | 5,v,w=>∃ c,v = .slice (some ⟨c,0,none⟩) 1 1∧w1.heap.size≤c∧w.heap[c]? = some (.cells #[.int .i64 (cl n)] 3 (0,0))
 | 6,v,w=>∃ a3 c3,v = .slice a3 (l.length+1) c3∧w.ownsRow base 3 1 (.slice a3 (l.length+1) c3) (l.length+1) (i64s (l++[cl n]))
 | 7,v,w=>v = .pointer (some ⟨BM,10,none⟩)
 | _,_,_=>True
def ngvD:Nat→List Nat
 | 6=>[5]
 | _=>[]
theorem ngv_keep (BM BX base:Nat) (k n:Int) (s:ByteArray) (xa:Option Addr) (xl xc:Nat) (g0:Bool) (va:Option Addr) (vc:Nat) (cs:List Value) (l:List Int) (w3 w1:World):∀ (j:Nat) (u:Value) (w w':World),Below w.heap.size w w'→(ngvT BM BX base k n s xa xl xc g0 va vc cs l w3 w1) j u w→(ngvT BM BX base k n s xa xl xc g0 va vc cs l w3 w1) j u w'
 | 4,u,w,w',hb,h=>⟨h.1,(hb.block _ (lt_of_block h.2)).trans h.2⟩
 | 5,u,w,w',hb,h=>by obtain⟨c,rfl,h0,h1⟩:=h; exact⟨c,rfl,h0,(hb.block _ (lt_of_block h1)).trans h1⟩
 | 6,u,w,w',hb,h=>by obtain⟨a3,c3,rfl,h1⟩:=h; exact⟨a3,c3,rfl,own_under h1 hb⟩
 | 0,u,w,w',hb,h=>h
 | 1,u,w,w',hb,h=>h
 | 2,u,w,w',hb,h=>h
 | 3,u,w,w',hb,h=>h
 | 7,u,w,w',hb,h=>h
 | _+8,u,w,w',hb,h=>trivial
set_option maxHeartbeats 4000000 in
theorem ngv_steps (BM BX base:Nat) (k n:Int) (s:ByteArray) (xa:Option Addr) (xl xc:Nat) (g0:Bool) (va:Option Addr) (vc:Nat) (cs:List Value) (l:List Int) (w3 w1:World) (hw3:w3.heap.size≤BM) (hX:BM+1<BX) (hXb:BX<w1.heap.size) (hbs:BM+1<base) (hbw:base≤w1.heap.size) (hXn:some BX≠(Value.slice va l.length vc).ownBlock) (hcs:cs[10]? = some (.slice va l.length vc)) (hn:l.length≤1000000) (hV:Tryz.prog.underlying 23 = some (.slice 3)) {a:Act}(hs:a.tmps.size=186) (b7:a.eval (.tmp 7) = .pointer (some ⟨BM,0,none⟩)) (b9:a.eval (.tmp 9) = .func (.func 43) #[] #[.pointer (some ⟨BM+1,0,none⟩)]) (b15:a.eval (.tmp 15) = .pointer (some ⟨BX,0,none⟩)):∀ i o,i<8→(regOf Tryz.f14 22)[i]? = some o→StepOkE Tryz.prog (regOf Tryz.f14 22) a (fun e w=>(fun w=>Below w3.heap.size w3 w∧w1.heap.size≤w.heap.size∧Blk w BM 25 cs∧Blk w BX 70 [.int .i64 k,.int .i64 n,.string s,.slice xa xl xc]∧(FlagAt w (BM+1) g0∨FlagAt w (BM+1) (g0&&decide (k=1)))) w∧(e 6=none→(fun w=>w.ownsRow base 3 1 (.slice va l.length vc) l.length (i64s l)) w)) (ngvT BM BX base k n s xa xl xc g0 va vc cs l w3 w1) ngvD i o:=by
 have hz:∀ t,Nat.blt t 186=true→Nat.blt t a.tmps.size=true:=fun t h=>by rw [hs]; exact h
 have hsz:(regOf Tryz.f14 22).size=9:=by kernel_rfl
 intro i o hii ho
 match i,hii with
 | 0,_ =>
   have ho1:=opIs ho (p:=.fieldAddr 25 (.tmp 7) 10) (by kernel_rfl)
   have hg:=guardIs ho (p:=none) (by kernel_rfl)
   intro e A w hA hC hp hup K hk
   have hM:=hC.2 (hup 6 (by kernel_rfl))
   replace hC:=hC.1
   replace hk:Next (regOf Tryz.f14 22) (fun w=>(fun w=>Below w3.heap.size w3 w∧w1.heap.size≤w.heap.size∧Blk w BM 25 cs∧Blk w BX 70 [.int .i64 k,.int .i64 n,.string s,.slice xa xl xc]∧(FlagAt w (BM+1) g0∨FlagAt w (BM+1) (g0&&decide (k=1)))) w∧(fun w=>w.ownsRow base 3 1 (.slice va l.length vc) l.length (i64s l)) w) (ngvT BM BX base k n s xa xl xc g0 va vc cs l w3 w1) ngvD 0 e A w o.dst K:=hk.next fun v w h=>⟨h.1,fun _=>h.2⟩
   have hCM:=And.intro hC hM
   have x7:A.eval (.tmp 7) = .pointer (some ⟨BM,0,none⟩):=filled_base hA (by kernel_rfl) b7
   have hw:Region.wanted o (yielded (regOf Tryz.f14 22) A.tmps)=true:=wanted_free hg
   refine step_pure (v:=.pointer (some ⟨BM,10,none⟩)) hk hCM hw ?_ rfl
   unfold execOp
   simp only [ho1]
   generalize A.eval=ρ at x7 ⊢
   simp [go_sem,x7]
 | 1,_ =>
   have ho1:=opIs ho (p:=.load 23 (.tmp 108)) (by kernel_rfl)
   have hg:=guardIs ho (p:=none) (by kernel_rfl)
   intro e A w hA hC hp hup K hk
   have hM:=hC.2 (hup 6 (by kernel_rfl))
   replace hC:=hC.1
   replace hk:Next (regOf Tryz.f14 22) (fun w=>(fun w=>Below w3.heap.size w3 w∧w1.heap.size≤w.heap.size∧Blk w BM 25 cs∧Blk w BX 70 [.int .i64 k,.int .i64 n,.string s,.slice xa xl xc]∧(FlagAt w (BM+1) g0∨FlagAt w (BM+1) (g0&&decide (k=1)))) w∧(fun w=>w.ownsRow base 3 1 (.slice va l.length vc) l.length (i64s l)) w) (ngvT BM BX base k n s xa xl xc g0 va vc cs l w3 w1) ngvD 1 e A w o.dst K:=hk.next fun v w h=>⟨h.1,fun _=>h.2⟩
   have hCM:=And.intro hC hM
   have x108:A.eval (.tmp 108) = .pointer (some ⟨BM,10,none⟩):=op_tmp hA hp 108 0 (by kernel_rfl) (by kernel_rfl) (by kernel_rfl) (hz _ rfl)
   have hw:Region.wanted o (yielded (regOf Tryz.f14 22) A.tmps)=true:=wanted_free hg
   have e1:=Blk.cell hC.2.2.1 hcs
   refine step_pure (v:=.slice va l.length vc) hk hCM hw ?_ rfl
   unfold execOp
   simp only [ho1]
   skip
   generalize A.eval=ρ at x108 ⊢
   simp [go_sem,x108,e1]
 | 2,_ =>
   have ho1:=opIs ho (p:=.move (.tmp 9)) (by kernel_rfl)
   have hg:=guardIs ho (p:=none) (by kernel_rfl)
   intro e A w hA hC hp hup K hk
   have hM:=hC.2 (hup 6 (by kernel_rfl))
   replace hC:=hC.1
   replace hk:Next (regOf Tryz.f14 22) (fun w=>(fun w=>Below w3.heap.size w3 w∧w1.heap.size≤w.heap.size∧Blk w BM 25 cs∧Blk w BX 70 [.int .i64 k,.int .i64 n,.string s,.slice xa xl xc]∧(FlagAt w (BM+1) g0∨FlagAt w (BM+1) (g0&&decide (k=1)))) w∧(fun w=>w.ownsRow base 3 1 (.slice va l.length vc) l.length (i64s l)) w) (ngvT BM BX base k n s xa xl xc g0 va vc cs l w3 w1) ngvD 2 e A w o.dst K:=hk.next fun v w h=>⟨h.1,fun _=>h.2⟩
   have hCM:=And.intro hC hM
   have x9:A.eval (.tmp 9) = .func (.func 43) #[] #[.pointer (some ⟨BM+1,0,none⟩)]:=filled_base hA (by kernel_rfl) b9
   have hw:Region.wanted o (yielded (regOf Tryz.f14 22) A.tmps)=true:=wanted_free hg
   exact step_pure hk hCM hw (run_move ho1 x9 w) rfl
 | 3,_ =>
   have ho1:=opIs ho (p:=.load 70 (.tmp 15)) (by kernel_rfl)
   have hg:=guardIs ho (p:=none) (by kernel_rfl)
   intro e A w hA hC hp hup K hk
   have hM:=hC.2 (hup 6 (by kernel_rfl))
   replace hC:=hC.1
   replace hk:Next (regOf Tryz.f14 22) (fun w=>(fun w=>Below w3.heap.size w3 w∧w1.heap.size≤w.heap.size∧Blk w BM 25 cs∧Blk w BX 70 [.int .i64 k,.int .i64 n,.string s,.slice xa xl xc]∧(FlagAt w (BM+1) g0∨FlagAt w (BM+1) (g0&&decide (k=1)))) w∧(fun w=>w.ownsRow base 3 1 (.slice va l.length vc) l.length (i64s l)) w) (ngvT BM BX base k n s xa xl xc g0 va vc cs l w3 w1) ngvD 3 e A w o.dst K:=hk.next fun v w h=>⟨h.1,fun _=>h.2⟩
   have hCM:=And.intro hC hM
   have x15:A.eval (.tmp 15) = .pointer (some ⟨BX,0,none⟩):=filled_base hA (by kernel_rfl) b15
   have hw:Region.wanted o (yielded (regOf Tryz.f14 22) A.tmps)=true:=wanted_free hg
   have e0:=Blk.cell (j:=0) hC.2.2.2.1 rfl
   have e1:=Blk.cell (j:=1) hC.2.2.2.1 rfl
   have e2:=Blk.cell (j:=2) hC.2.2.2.1 rfl
   have e3:=Blk.cell (j:=3) hC.2.2.2.1 rfl
   refine step_pure (v:=.agg #[.int .i64 k,.int .i64 n,.string s,.slice xa xl xc]) hk hCM hw ?_ rfl
   unfold execOp
   simp only [ho1]
   skip
   generalize A.eval=ρ at x15 ⊢
   simp [go_sem,x15,e0,e1,e2,e3]
 | 4,_ =>
   have ho1:=opIs ho (p:=.call { callee:=(.value (.tmp 110)),args:=#[(.tmp 111)],argTypes:=#[70] }) (by kernel_rfl)
   have hg:=guardIs ho (p:=none) (by kernel_rfl)
   intro e A w hA hC hp hup K hk
   have hM:=hC.2 (hup 6 (by kernel_rfl))
   replace hC:=hC.1
   replace hk:Next (regOf Tryz.f14 22) (fun w=>(fun w=>Below w3.heap.size w3 w∧w1.heap.size≤w.heap.size∧Blk w BM 25 cs∧Blk w BX 70 [.int .i64 k,.int .i64 n,.string s,.slice xa xl xc]∧(FlagAt w (BM+1) g0∨FlagAt w (BM+1) (g0&&decide (k=1)))) w∧(fun w=>w.ownsRow base 3 1 (.slice va l.length vc) l.length (i64s l)) w) (ngvT BM BX base k n s xa xl xc g0 va vc cs l w3 w1) ngvD 4 e A w o.dst K:=hk.next fun v w h=>⟨h.1,fun _=>h.2⟩
   have hCM:=And.intro hC hM
   have x110:A.eval (.tmp 110) = .func (.func 43) #[] #[.pointer (some ⟨BM+1,0,none⟩)]:=op_tmp hA hp 110 2 (by kernel_rfl) (by kernel_rfl) (by kernel_rfl) (hz _ rfl)
   have x111:A.eval (.tmp 111) = .agg #[.int .i64 k,.int .i64 n,.string s,.slice xa xl xc]:=op_tmp hA hp 111 3 (by kernel_rfl) (by kernel_rfl) (by kernel_rfl) (hz _ rfl)
   have hw:Region.wanted o (yielded (regOf Tryz.f14 22) A.tmps)=true:=wanted_free hg
   refine step_call (f:=43) (args:=#[.agg #[.int .i64 k,.int .i64 n,.string s,.slice xa xl xc],.pointer (some ⟨BM+1,0,none⟩)]) hk hw ?_ ?_
   ·unfold execOp
    simp only [ho1]
    generalize A.eval=ρ at x110 x111 ⊢
    simp [go_sem,x110,x111]
   ·obtain⟨h1,h2,h3,h4,h5⟩:=hC
    have key:∃ gc,FlagAt w (BM+1) gc∧(gc&&decide (k=1))=(g0&&decide (k=1)):=by
     rcases h5 with h5 | h5
     ·exact⟨_,h5,rfl⟩
     ·exact⟨_,h5,by cases g0 <;> simp⟩
    obtain⟨gc,hgc,hge⟩:=key
    refine (nread_any k n s xa xl xc (BM+1) gc w hgc (cl n) (Lib.hid rfl) _ (Lib.hid rfl)).mono ?_
    rintro en w' ⟨rfl,hf',hg'⟩
    rw [hge] at hf'
    refine⟨_,rfl,⟨rfl,hf'⟩,⟨⟨grB h1 hg' hw3,Nat.le_trans h2 hg'.size,h3.kept hg' (fun e=>by have:=Option.some.inj e; omega),h4.kept hg' (fun e=>by have:=Option.some.inj e; omega),.inr hf'⟩,own_kept hM hg' hbs⟩,fun j u hj hji hwt hd h=>?_⟩
    match j,h with
    | 0,h=>exact h
    | 1,h=>exact h
    | 2,h=>exact h
    | 3,h=>exact h
    | 4,h=>exact absurd rfl hji
    | 5,h=>obtain⟨c,rfl,h0,h6⟩:=h; exact⟨c,rfl,h0,(hg'.block _ (lt_of_block h6) (fun e=>by have:=Option.some.inj e; omega)).trans h6⟩
    | 6,h=>obtain⟨a3,c3,rfl,h6⟩:=h; exact⟨a3,c3,rfl,own_kept h6 hg' hbs⟩
    | 7,h=>exact h
    | _+8,h=>trivial
 | 5,_ =>
   have ho1:=opIs ho (p:=.buildSlice 23 1 #[(0,(.tmp 112))]) (by kernel_rfl)
   have hg:=guardIs ho (p:=none) (by kernel_rfl)
   intro e A w hA hC hp hup K hk
   have hM:=hC.2 (hup 6 (by kernel_rfl))
   replace hC:=hC.1
   replace hk:Next (regOf Tryz.f14 22) (fun w=>(fun w=>Below w3.heap.size w3 w∧w1.heap.size≤w.heap.size∧Blk w BM 25 cs∧Blk w BX 70 [.int .i64 k,.int .i64 n,.string s,.slice xa xl xc]∧(FlagAt w (BM+1) g0∨FlagAt w (BM+1) (g0&&decide (k=1)))) w∧(fun w=>w.ownsRow base 3 1 (.slice va l.length vc) l.length (i64s l)) w) (ngvT BM BX base k n s xa xl xc g0 va vc cs l w3 w1) ngvD 5 e A w o.dst K:=hk.next fun v w h=>⟨h.1,fun _=>h.2⟩
   have hCM:=And.intro hC hM
   have x112:=op_tmp hA hp 112 4 (by kernel_rfl) (by kernel_rfl) (by kernel_rfl) (hz _ rfl)
   have hw:Region.wanted o (yielded (regOf Tryz.f14 22) A.tmps)=true:=wanted_free hg
   obtain⟨x112,hf⟩:=x112
   refine step_value (v:=.slice (some ⟨w.heap.size,0,none⟩) 1 1) (w':=w.alloc (.cells #[.int .i64 (cl n)] 3)) hk hw ?_ ?_ ?_ ?_
   ·unfold execOp
    simp only [ho1]
    generalize A.eval=ρ at x112 ⊢
    simp [go_sem,x112]
   ·exact⟨w.heap.size,rfl,hC.2.1,heap_alloc_new w _⟩
   ·exact⟨⟨hC.1.alloc hC.1.size _,by have:=hC.2.1; simp; omega,hC.2.2.1.alloc _,hC.2.2.2.1.alloc _,hC.2.2.2.2.imp (fun h=>(heap_alloc_old w _ (lt_of_block h)).trans h) (fun h=>(heap_alloc_old w _ (lt_of_block h)).trans h)⟩,own_under hM ((Below.refl _ w).alloc (Nat.le_refl _) _)⟩
   ·intro j u _ _ _ _ h
    exact ngv_keep BM BX base k n s xa xl xc g0 va vc cs l w3 w1 j u w _ ((Below.refl _ w).alloc (Nat.le_refl _) _) h
 | 6,_ =>
   have ho1:=opIs ho (p:=.call { callee:=(.builtin .append),args:=#[(.tmp 109),(.tmp 113)],argTypes:=#[23,23] }) (by kernel_rfl)
   have hg:=guardIs ho (p:=none) (by kernel_rfl)
   intro e A w hA hC hp hup K hk
   have hM:=hC.2 (hup 6 (by kernel_rfl))
   have x109:A.eval (.tmp 109) = .slice va l.length vc:=op_tmp hA hp 109 1 (by kernel_rfl) (by kernel_rfl) (by kernel_rfl) (hz _ rfl)
   have x113:=op_tmp hA hp 113 5 (by kernel_rfl) (by kernel_rfl) (by kernel_rfl) (hz _ rfl)
   have hw:Region.wanted o (yielded (regOf Tryz.f14 22) A.tmps)=true:=wanted_free hg
   obtain⟨c,x113,hc0,h3⟩:=x113
   have hle:=hC.1.2.1
   obtain⟨i0,hi0,hz0,hz1,hz2⟩:=infoI
   obtain⟨a3,c3,w',hr,ho,hg⟩:=rowApp i0 hi0 hz0 hz1 hz2 rfl (by decide) hM c [.int .i64 (cl n)] _ 23 o.type hV h3 rfl (by intro u hu; rw [List.mem_singleton] at hu; subst hu; rfl) hn (by decide) (Nat.le_trans hbw hle)
   have hO:∀ p,p<base→some p≠(Value.slice va l.length vc).ownBlock:=fun p hp e=>by have:=(hM.lt _ e.symm).1; omega
   rw [if_pos hw]
   unfold Oper.wp
   rw [show (execOp A.eval o).run Tryz.prog w = .ok (.value (.slice a3 (l.length+1) c3)) w' by
    unfold execOp
    simp only [ho1,resolve,invoke,builtin,Sem.run_bind,Sem.run_pure,Result.andThen_ok,List.map_toArray,List.map_cons,List.map_nil,x109,x113,hr]]
   obtain⟨⟨h1,h2,h3',h4,h5⟩,-⟩:=hC
   have hf:∀ b,FlagAt w (BM+1) b→FlagAt w' (BM+1) b:=fun b h=>(hg.block _ (lt_of_block h) (hO _ hbs)).trans h
   refine hk _ _ ⟨a3,c3,rfl,by rw [i64s_snoc]; exact ho⟩ ⟨⟨h1.grown hg h1.size (fun q e=>by have:=(hM.lt q e).1; omega),Nat.le_trans h2 hg.size,h3'.kept hg (hO _ (by omega)),h4.kept hg hXn,h5.imp (hf _) (hf _)⟩,fun h=>by rw [Vals.set_same] at h; cases h⟩ ?_
   intro j u hj hji _ hd h
   match j,h with
   | 0,h=>exact h
   | 1,h=>exact h
   | 2,h=>exact h
   | 3,h=>exact h
   | 4,h=>exact⟨h.1,hf _ h.2⟩
   | 5,h=>exact absurd rfl (hd 6 (by rw [hsz]; decide) rfl).1
   | 6,h=>exact absurd rfl hji
   | 7,h=>exact h
   | _+8,h=>trivial
 | 7,_ =>
   have ho1:=opIs ho (p:=.fieldAddr 25 (.tmp 7) 10) (by kernel_rfl)
   have hg:=guardIs ho (p:=none) (by kernel_rfl)
   intro e A w hA hC hp hup K hk
   replace hk:Next (regOf Tryz.f14 22) (fun w=>(fun w=>Below w3.heap.size w3 w∧w1.heap.size≤w.heap.size∧Blk w BM 25 cs∧Blk w BX 70 [.int .i64 k,.int .i64 n,.string s,.slice xa xl xc]∧(FlagAt w (BM+1) g0∨FlagAt w (BM+1) (g0&&decide (k=1)))) w∧(e 6=none→(fun w=>w.ownsRow base 3 1 (.slice va l.length vc) l.length (i64s l)) w)) (ngvT BM BX base k n s xa xl xc g0 va vc cs l w3 w1) ngvD 7 e A w o.dst K:=hk.next fun v w h=>⟨h.1,fun he=>h.2 (by rwa [Vals.set_other e v (by decide)] at he)⟩
   have hCM:=hC
   have x7:A.eval (.tmp 7) = .pointer (some ⟨BM,0,none⟩):=filled_base hA (by kernel_rfl) b7
   have hw:Region.wanted o (yielded (regOf Tryz.f14 22) A.tmps)=true:=wanted_free hg
   refine step_pure (v:=.pointer (some ⟨BM,10,none⟩)) hk hCM hw ?_ rfl
   unfold execOp
   simp only [ho1]
   generalize A.eval=ρ at x7 ⊢
   simp [go_sem,x7]
 | _+8,h=>exact absurd h (by omega)
def ngrT (BM BX base b of:Nat) (xk xn:Int) (xs:ByteArray) (xc:Nat) (k0 n0:Int) (s0:ByteArray) (a0:Option Addr) (l0 c0:Nat) (k1 n1:Int) (s1:ByteArray) (a1:Option Addr) (l1 c1:Nat) (sd:ByteArray) (g0:Bool) (va:Option Addr) (vc:Nat) (cs:List Value) (l:List Rc) (w3 w1:World):Nat→Value→World→Prop
 | 0,v,w=>v = .pointer (some ⟨BM,7,none⟩)
 | 1,v,w=>v = .slice va l.length vc
 | 2,v,w=>v = .func (.func 43) #[] #[.pointer (some ⟨BM+1,0,none⟩)]
 | 3,v,w=>v = .pointer (some ⟨BX,3,none⟩)
 | 4,v,w=>v = .slice (some ⟨b,of,none⟩) 3 xc
 | 5,v,w=>v = .pointer (some ⟨b,of,none⟩)
 | 6,v,w=>v = .agg #[.int .i64 k0,.int .i64 n0,.string s0,.slice a0 l0 c0]
 | 7,v,w=>v = .int .i64 (cl n0)∧∃ gb,FlagAt w (BM+1) gb∧(gb=true→decide (k0=1)=true)
 | 8,v,w=>v = .func (.func 43) #[] #[.pointer (some ⟨BM+1,0,none⟩)]
 | 9,v,w=>v = .pointer (some ⟨BX,3,none⟩)
 | 10,v,w=>v = .slice (some ⟨b,of,none⟩) 3 xc
 | 11,v,w=>v = .pointer (some ⟨b,of+4,none⟩)
 | 12,v,w=>v = .agg #[.int .i64 k1,.int .i64 n1,.string s1,.slice a1 l1 c1]
 | 13,v,w=>v = .int .i64 (cl n1)∧∃ gb,FlagAt w (BM+1) gb∧(gb=true→decide (k1=1)=true)
 | 14,v,w=>v = .pointer (some ⟨BX,3,none⟩)
 | 15,v,w=>v = .slice (some ⟨b,of,none⟩) 3 xc
 | 16,v,w=>v = .pointer (some ⟨b,of+8,none⟩)
 | 17,v,w=>v = .pointer (some ⟨b,of+10,none⟩)
 | 18,v,w=>v = .string sd
 | 19,v,w=>v = .agg #[.int .i64 (cl n0),.int .i64 (cl n1),.string sd]
 | 20,v,w=>∃ c,v = .slice (some ⟨c,0,none⟩) 1 1∧w1.heap.size≤c∧w.heap[c]? = some (.cells #[.int .i64 (cl n0),.int .i64 (cl n1),.string sd] 67 (0,0))
 | 21,v,w=>∃ a3 c3,v = .slice a3 (l.length+1) c3∧w.ownsRow base 67 3 (.slice a3 (l.length+1) c3) (l.length+1) (rcE.cells (l++[⟨cl n0,cl n1,sd⟩]))
 | 22,v,w=>v = .pointer (some ⟨BM,7,none⟩)
 | _,_,_=>True
def ngrD:Nat→List Nat
 | 21=>[20]
 | _=>[]
theorem ngr_keep (BM BX base b of:Nat) (xk xn:Int) (xs:ByteArray) (xc:Nat) (k0 n0:Int) (s0:ByteArray) (a0:Option Addr) (l0 c0:Nat) (k1 n1:Int) (s1:ByteArray) (a1:Option Addr) (l1 c1:Nat) (sd:ByteArray) (g0:Bool) (va:Option Addr) (vc:Nat) (cs:List Value) (l:List Rc) (w3 w1:World):∀ (j:Nat) (u:Value) (w w':World),Below w.heap.size w w'→(ngrT BM BX base b of xk xn xs xc k0 n0 s0 a0 l0 c0 k1 n1 s1 a1 l1 c1 sd g0 va vc cs l w3 w1) j u w→(ngrT BM BX base b of xk xn xs xc k0 n0 s0 a0 l0 c0 k1 n1 s1 a1 l1 c1 sd g0 va vc cs l w3 w1) j u w'
 | 7,u,w,w',hb,h=>by obtain⟨gb,hf,himp⟩:=h.2; exact⟨h.1,gb,(hb.block _ (lt_of_block hf)).trans hf,himp⟩
 | 13,u,w,w',hb,h=>by obtain⟨gb,hf,himp⟩:=h.2; exact⟨h.1,gb,(hb.block _ (lt_of_block hf)).trans hf,himp⟩
 | 20,u,w,w',hb,h=>by obtain⟨c,rfl,h0,h1⟩:=h; exact⟨c,rfl,h0,(hb.block _ (lt_of_block h1)).trans h1⟩
 | 21,u,w,w',hb,h=>by obtain⟨a3,c3,rfl,h1⟩:=h; exact⟨a3,c3,rfl,own_under h1 hb⟩
 | 0,u,w,w',hb,h=>h
 | 1,u,w,w',hb,h=>h
 | 2,u,w,w',hb,h=>h
 | 3,u,w,w',hb,h=>h
 | 4,u,w,w',hb,h=>h
 | 5,u,w,w',hb,h=>h
 | 6,u,w,w',hb,h=>h
 | 8,u,w,w',hb,h=>h
 | 9,u,w,w',hb,h=>h
 | 10,u,w,w',hb,h=>h
 | 11,u,w,w',hb,h=>h
 | 12,u,w,w',hb,h=>h
 | 14,u,w,w',hb,h=>h
 | 15,u,w,w',hb,h=>h
 | 16,u,w,w',hb,h=>h
 | 17,u,w,w',hb,h=>h
 | 18,u,w,w',hb,h=>h
 | 19,u,w,w',hb,h=>h
 | 22,u,w,w',hb,h=>h
 | _+23,u,w,w',hb,h=>trivial
set_option maxHeartbeats 4000000 in
theorem ngr_steps (BM BX base b of:Nat) (xk xn:Int) (xs:ByteArray) (xc:Nat) (k0 n0:Int) (s0:ByteArray) (a0:Option Addr) (l0 c0:Nat) (k1 n1:Int) (s1:ByteArray) (a1:Option Addr) (l1 c1:Nat) (sd:ByteArray) (g0:Bool) (va:Option Addr) (vc:Nat) (cs:List Value) (l:List Rc) (w3 w1:World) (hw3:w3.heap.size≤BM) (hX:BM+1<BX) (hXb:BX<w1.heap.size) (hbs:BM+1<base) (hbw:base≤w1.heap.size) (hXn:some BX≠(Value.slice va l.length vc).ownBlock) (hcs:cs[7]? = some (.slice va l.length vc)) (hn:l.length≤1000000) (hb3:b<w3.heap.size) (hc0:w3.cell? ⟨b,of,none⟩=some (.int .i64 k0)) (hc1:w3.cell? ⟨b,of+1,none⟩=some (.int .i64 n0)) (hc2:w3.cell? ⟨b,of+2,none⟩=some (.string s0)) (hc3:w3.cell? ⟨b,of+3,none⟩=some (.slice a0 l0 c0)) (hc4:w3.cell? ⟨b,of+4,none⟩=some (.int .i64 k1)) (hc5:w3.cell? ⟨b,of+5,none⟩=some (.int .i64 n1)) (hc6:w3.cell? ⟨b,of+6,none⟩=some (.string s1)) (hc7:w3.cell? ⟨b,of+7,none⟩=some (.slice a1 l1 c1)) (hc10:w3.cell? ⟨b,of+10,none⟩=some (.string sd)) (hV:Tryz.prog.underlying 22 = some (.slice 67)) {a:Act}(hs:a.tmps.size=186) (b7:a.eval (.tmp 7) = .pointer (some ⟨BM,0,none⟩)) (b9:a.eval (.tmp 9) = .func (.func 43) #[] #[.pointer (some ⟨BM+1,0,none⟩)]) (b17:a.eval (.tmp 17) = .pointer (some ⟨BX,0,none⟩)):∀ i o,i<23→(regOf Tryz.f14 29)[i]? = some o→StepOkE Tryz.prog (regOf Tryz.f14 29) a (fun e w=>(fun w=>Below w3.heap.size w3 w∧w1.heap.size≤w.heap.size∧Blk w BM 25 cs∧Blk w BX 70 [.int .i64 xk,.int .i64 xn,.string xs,.slice (some ⟨b,of,none⟩) 3 xc]∧(∃ gb,FlagAt w (BM+1) gb∧(gb=true→g0=true)∧((g0&&(decide (k0=1)&&decide (k1=1)))=true→gb=true))∧(∀ q,q<base→q≠BM→q≠BM+1→w.heap[q]? = w1.heap[q]?)) w∧(e 21=none→(fun w=>w.ownsRow base 67 3 (.slice va l.length vc) l.length (rcE.cells l)) w)) (ngrT BM BX base b of xk xn xs xc k0 n0 s0 a0 l0 c0 k1 n1 s1 a1 l1 c1 sd g0 va vc cs l w3 w1) ngrD i o:=by
 have hz:∀ t,Nat.blt t 186=true→Nat.blt t a.tmps.size=true:=fun t h=>by rw [hs]; exact h
 have hsz:(regOf Tryz.f14 29).size=24:=by kernel_rfl
 intro i o hii ho
 match i,hii with
 | 0,_ =>
   have ho1:=opIs ho (p:=.fieldAddr 25 (.tmp 7) 7) (by kernel_rfl)
   have hg:=guardIs ho (p:=none) (by kernel_rfl)
   intro e A w hA hC hp hup K hk
   have hM:=hC.2 (hup 21 (by kernel_rfl))
   replace hC:=hC.1
   replace hk:Next (regOf Tryz.f14 29) (fun w=>(fun w=>Below w3.heap.size w3 w∧w1.heap.size≤w.heap.size∧Blk w BM 25 cs∧Blk w BX 70 [.int .i64 xk,.int .i64 xn,.string xs,.slice (some ⟨b,of,none⟩) 3 xc]∧(∃ gb,FlagAt w (BM+1) gb∧(gb=true→g0=true)∧((g0&&(decide (k0=1)&&decide (k1=1)))=true→gb=true))∧(∀ q,q<base→q≠BM→q≠BM+1→w.heap[q]? = w1.heap[q]?)) w∧(fun w=>w.ownsRow base 67 3 (.slice va l.length vc) l.length (rcE.cells l)) w) (ngrT BM BX base b of xk xn xs xc k0 n0 s0 a0 l0 c0 k1 n1 s1 a1 l1 c1 sd g0 va vc cs l w3 w1) ngrD 0 e A w o.dst K:=hk.next fun v w h=>⟨h.1,fun _=>h.2⟩
   have hCM:=And.intro hC hM
   have x7:A.eval (.tmp 7) = .pointer (some ⟨BM,0,none⟩):=filled_base hA (by kernel_rfl) b7
   have hw:Region.wanted o (yielded (regOf Tryz.f14 29) A.tmps)=true:=wanted_free hg
   refine step_pure (v:=.pointer (some ⟨BM,7,none⟩)) hk hCM hw ?_ rfl
   unfold execOp
   simp only [ho1]
   generalize A.eval=ρ at x7 ⊢
   simp [go_sem,x7]
 | 1,_ =>
   have ho1:=opIs ho (p:=.load 22 (.tmp 145)) (by kernel_rfl)
   have hg:=guardIs ho (p:=none) (by kernel_rfl)
   intro e A w hA hC hp hup K hk
   have hM:=hC.2 (hup 21 (by kernel_rfl))
   replace hC:=hC.1
   replace hk:Next (regOf Tryz.f14 29) (fun w=>(fun w=>Below w3.heap.size w3 w∧w1.heap.size≤w.heap.size∧Blk w BM 25 cs∧Blk w BX 70 [.int .i64 xk,.int .i64 xn,.string xs,.slice (some ⟨b,of,none⟩) 3 xc]∧(∃ gb,FlagAt w (BM+1) gb∧(gb=true→g0=true)∧((g0&&(decide (k0=1)&&decide (k1=1)))=true→gb=true))∧(∀ q,q<base→q≠BM→q≠BM+1→w.heap[q]? = w1.heap[q]?)) w∧(fun w=>w.ownsRow base 67 3 (.slice va l.length vc) l.length (rcE.cells l)) w) (ngrT BM BX base b of xk xn xs xc k0 n0 s0 a0 l0 c0 k1 n1 s1 a1 l1 c1 sd g0 va vc cs l w3 w1) ngrD 1 e A w o.dst K:=hk.next fun v w h=>⟨h.1,fun _=>h.2⟩
   have hCM:=And.intro hC hM
   have x145:A.eval (.tmp 145) = .pointer (some ⟨BM,7,none⟩):=op_tmp hA hp 145 0 (by kernel_rfl) (by kernel_rfl) (by kernel_rfl) (hz _ rfl)
   have hw:Region.wanted o (yielded (regOf Tryz.f14 29) A.tmps)=true:=wanted_free hg
   have e1:=Blk.cell hC.2.2.1 hcs
   refine step_pure (v:=.slice va l.length vc) hk hCM hw ?_ rfl
   unfold execOp
   simp only [ho1]
   skip
   generalize A.eval=ρ at x145 ⊢
   simp [go_sem,x145,e1]
 | 2,_ =>
   have ho1:=opIs ho (p:=.move (.tmp 9)) (by kernel_rfl)
   have hg:=guardIs ho (p:=none) (by kernel_rfl)
   intro e A w hA hC hp hup K hk
   have hM:=hC.2 (hup 21 (by kernel_rfl))
   replace hC:=hC.1
   replace hk:Next (regOf Tryz.f14 29) (fun w=>(fun w=>Below w3.heap.size w3 w∧w1.heap.size≤w.heap.size∧Blk w BM 25 cs∧Blk w BX 70 [.int .i64 xk,.int .i64 xn,.string xs,.slice (some ⟨b,of,none⟩) 3 xc]∧(∃ gb,FlagAt w (BM+1) gb∧(gb=true→g0=true)∧((g0&&(decide (k0=1)&&decide (k1=1)))=true→gb=true))∧(∀ q,q<base→q≠BM→q≠BM+1→w.heap[q]? = w1.heap[q]?)) w∧(fun w=>w.ownsRow base 67 3 (.slice va l.length vc) l.length (rcE.cells l)) w) (ngrT BM BX base b of xk xn xs xc k0 n0 s0 a0 l0 c0 k1 n1 s1 a1 l1 c1 sd g0 va vc cs l w3 w1) ngrD 2 e A w o.dst K:=hk.next fun v w h=>⟨h.1,fun _=>h.2⟩
   have hCM:=And.intro hC hM
   have x9:A.eval (.tmp 9) = .func (.func 43) #[] #[.pointer (some ⟨BM+1,0,none⟩)]:=filled_base hA (by kernel_rfl) b9
   have hw:Region.wanted o (yielded (regOf Tryz.f14 29) A.tmps)=true:=wanted_free hg
   exact step_pure hk hCM hw (run_move ho1 x9 w) rfl
 | 3,_ =>
   have ho1:=opIs ho (p:=.fieldAddr 70 (.tmp 17) 3) (by kernel_rfl)
   have hg:=guardIs ho (p:=none) (by kernel_rfl)
   intro e A w hA hC hp hup K hk
   have hM:=hC.2 (hup 21 (by kernel_rfl))
   replace hC:=hC.1
   replace hk:Next (regOf Tryz.f14 29) (fun w=>(fun w=>Below w3.heap.size w3 w∧w1.heap.size≤w.heap.size∧Blk w BM 25 cs∧Blk w BX 70 [.int .i64 xk,.int .i64 xn,.string xs,.slice (some ⟨b,of,none⟩) 3 xc]∧(∃ gb,FlagAt w (BM+1) gb∧(gb=true→g0=true)∧((g0&&(decide (k0=1)&&decide (k1=1)))=true→gb=true))∧(∀ q,q<base→q≠BM→q≠BM+1→w.heap[q]? = w1.heap[q]?)) w∧(fun w=>w.ownsRow base 67 3 (.slice va l.length vc) l.length (rcE.cells l)) w) (ngrT BM BX base b of xk xn xs xc k0 n0 s0 a0 l0 c0 k1 n1 s1 a1 l1 c1 sd g0 va vc cs l w3 w1) ngrD 3 e A w o.dst K:=hk.next fun v w h=>⟨h.1,fun _=>h.2⟩
   have hCM:=And.intro hC hM
   have x17:A.eval (.tmp 17) = .pointer (some ⟨BX,0,none⟩):=filled_base hA (by kernel_rfl) b17
   have hw:Region.wanted o (yielded (regOf Tryz.f14 29) A.tmps)=true:=wanted_free hg
   refine step_pure (v:=.pointer (some ⟨BX,3,none⟩)) hk hCM hw ?_ rfl
   unfold execOp
   simp only [ho1]
   generalize A.eval=ρ at x17 ⊢
   simp [go_sem,x17]
 | 4,_ =>
   have ho1:=opIs ho (p:=.load 68 (.tmp 148)) (by kernel_rfl)
   have hg:=guardIs ho (p:=none) (by kernel_rfl)
   intro e A w hA hC hp hup K hk
   have hM:=hC.2 (hup 21 (by kernel_rfl))
   replace hC:=hC.1
   replace hk:Next (regOf Tryz.f14 29) (fun w=>(fun w=>Below w3.heap.size w3 w∧w1.heap.size≤w.heap.size∧Blk w BM 25 cs∧Blk w BX 70 [.int .i64 xk,.int .i64 xn,.string xs,.slice (some ⟨b,of,none⟩) 3 xc]∧(∃ gb,FlagAt w (BM+1) gb∧(gb=true→g0=true)∧((g0&&(decide (k0=1)&&decide (k1=1)))=true→gb=true))∧(∀ q,q<base→q≠BM→q≠BM+1→w.heap[q]? = w1.heap[q]?)) w∧(fun w=>w.ownsRow base 67 3 (.slice va l.length vc) l.length (rcE.cells l)) w) (ngrT BM BX base b of xk xn xs xc k0 n0 s0 a0 l0 c0 k1 n1 s1 a1 l1 c1 sd g0 va vc cs l w3 w1) ngrD 4 e A w o.dst K:=hk.next fun v w h=>⟨h.1,fun _=>h.2⟩
   have hCM:=And.intro hC hM
   have x148:A.eval (.tmp 148) = .pointer (some ⟨BX,3,none⟩):=op_tmp hA hp 148 3 (by kernel_rfl) (by kernel_rfl) (by kernel_rfl) (hz _ rfl)
   have hw:Region.wanted o (yielded (regOf Tryz.f14 29) A.tmps)=true:=wanted_free hg
   have e1:=Blk.cell (j:=3) hC.2.2.2.1 rfl
   refine step_pure (v:=.slice (some ⟨b,of,none⟩) 3 xc) hk hCM hw ?_ rfl
   unfold execOp
   simp only [ho1]
   skip
   generalize A.eval=ρ at x148 ⊢
   simp [go_sem,x148,e1]
 | 5,_ =>
   have ho1:=opIs ho (p:=.indexAddr 68 (.tmp 149) (.const (.int .i64 0))) (by kernel_rfl)
   have hg:=guardIs ho (p:=none) (by kernel_rfl)
   intro e A w hA hC hp hup K hk
   have hM:=hC.2 (hup 21 (by kernel_rfl))
   replace hC:=hC.1
   replace hk:Next (regOf Tryz.f14 29) (fun w=>(fun w=>Below w3.heap.size w3 w∧w1.heap.size≤w.heap.size∧Blk w BM 25 cs∧Blk w BX 70 [.int .i64 xk,.int .i64 xn,.string xs,.slice (some ⟨b,of,none⟩) 3 xc]∧(∃ gb,FlagAt w (BM+1) gb∧(gb=true→g0=true)∧((g0&&(decide (k0=1)&&decide (k1=1)))=true→gb=true))∧(∀ q,q<base→q≠BM→q≠BM+1→w.heap[q]? = w1.heap[q]?)) w∧(fun w=>w.ownsRow base 67 3 (.slice va l.length vc) l.length (rcE.cells l)) w) (ngrT BM BX base b of xk xn xs xc k0 n0 s0 a0 l0 c0 k1 n1 s1 a1 l1 c1 sd g0 va vc cs l w3 w1) ngrD 5 e A w o.dst K:=hk.next fun v w h=>⟨h.1,fun _=>h.2⟩
   have hCM:=And.intro hC hM
   have x149:A.eval (.tmp 149) = .slice (some ⟨b,of,none⟩) 3 xc:=op_tmp hA hp 149 4 (by kernel_rfl) (by kernel_rfl) (by kernel_rfl) (hz _ rfl)
   have hw:Region.wanted o (yielded (regOf Tryz.f14 29) A.tmps)=true:=wanted_free hg
   refine step_pure (v:=.pointer (some ⟨b,of,none⟩)) hk hCM hw ?_ rfl
   unfold execOp
   simp only [ho1]
   have xc:∀ v,A.eval (.const v)=v:=fun _=>rfl
   generalize A.eval=ρ at x149 xc ⊢
   simp [go_sem,x149,xc]
 | 6,_ =>
   have ho1:=opIs ho (p:=.load 70 (.tmp 150)) (by kernel_rfl)
   have hg:=guardIs ho (p:=none) (by kernel_rfl)
   intro e A w hA hC hp hup K hk
   have hM:=hC.2 (hup 21 (by kernel_rfl))
   replace hC:=hC.1
   replace hk:Next (regOf Tryz.f14 29) (fun w=>(fun w=>Below w3.heap.size w3 w∧w1.heap.size≤w.heap.size∧Blk w BM 25 cs∧Blk w BX 70 [.int .i64 xk,.int .i64 xn,.string xs,.slice (some ⟨b,of,none⟩) 3 xc]∧(∃ gb,FlagAt w (BM+1) gb∧(gb=true→g0=true)∧((g0&&(decide (k0=1)&&decide (k1=1)))=true→gb=true))∧(∀ q,q<base→q≠BM→q≠BM+1→w.heap[q]? = w1.heap[q]?)) w∧(fun w=>w.ownsRow base 67 3 (.slice va l.length vc) l.length (rcE.cells l)) w) (ngrT BM BX base b of xk xn xs xc k0 n0 s0 a0 l0 c0 k1 n1 s1 a1 l1 c1 sd g0 va vc cs l w3 w1) ngrD 6 e A w o.dst K:=hk.next fun v w h=>⟨h.1,fun _=>h.2⟩
   have hCM:=And.intro hC hM
   have x150:A.eval (.tmp 150) = .pointer (some ⟨b,of,none⟩):=op_tmp hA hp 150 5 (by kernel_rfl) (by kernel_rfl) (by kernel_rfl) (hz _ rfl)
   have hw:Region.wanted o (yielded (regOf Tryz.f14 29) A.tmps)=true:=wanted_free hg
   have e0:=(World.cell?_of_block (a:=⟨b,of,none⟩) (hC.1.block b hb3)).trans hc0
   have e1:=(World.cell?_of_block (a:=⟨b,of+1,none⟩) (hC.1.block b hb3)).trans hc1
   have e2:=(World.cell?_of_block (a:=⟨b,of+2,none⟩) (hC.1.block b hb3)).trans hc2
   have e3:=(World.cell?_of_block (a:=⟨b,of+3,none⟩) (hC.1.block b hb3)).trans hc3
   refine step_pure (v:=.agg #[.int .i64 k0,.int .i64 n0,.string s0,.slice a0 l0 c0]) hk hCM hw ?_ rfl
   unfold execOp
   simp only [ho1]
   skip
   generalize A.eval=ρ at x150 ⊢
   simp [go_sem,x150,e0,e1,e2,e3]
 | 7,_ =>
   have ho1:=opIs ho (p:=.call { callee:=(.value (.tmp 147)),args:=#[(.tmp 151)],argTypes:=#[70] }) (by kernel_rfl)
   have hg:=guardIs ho (p:=none) (by kernel_rfl)
   intro e A w hA hC hp hup K hk
   have hM:=hC.2 (hup 21 (by kernel_rfl))
   replace hC:=hC.1
   replace hk:Next (regOf Tryz.f14 29) (fun w=>(fun w=>Below w3.heap.size w3 w∧w1.heap.size≤w.heap.size∧Blk w BM 25 cs∧Blk w BX 70 [.int .i64 xk,.int .i64 xn,.string xs,.slice (some ⟨b,of,none⟩) 3 xc]∧(∃ gb,FlagAt w (BM+1) gb∧(gb=true→g0=true)∧((g0&&(decide (k0=1)&&decide (k1=1)))=true→gb=true))∧(∀ q,q<base→q≠BM→q≠BM+1→w.heap[q]? = w1.heap[q]?)) w∧(fun w=>w.ownsRow base 67 3 (.slice va l.length vc) l.length (rcE.cells l)) w) (ngrT BM BX base b of xk xn xs xc k0 n0 s0 a0 l0 c0 k1 n1 s1 a1 l1 c1 sd g0 va vc cs l w3 w1) ngrD 7 e A w o.dst K:=hk.next fun v w h=>⟨h.1,fun _=>h.2⟩
   have hCM:=And.intro hC hM
   have x147:A.eval (.tmp 147) = .func (.func 43) #[] #[.pointer (some ⟨BM+1,0,none⟩)]:=op_tmp hA hp 147 2 (by kernel_rfl) (by kernel_rfl) (by kernel_rfl) (hz _ rfl)
   have x151:A.eval (.tmp 151) = .agg #[.int .i64 k0,.int .i64 n0,.string s0,.slice a0 l0 c0]:=op_tmp hA hp 151 6 (by kernel_rfl) (by kernel_rfl) (by kernel_rfl) (hz _ rfl)
   have hw:Region.wanted o (yielded (regOf Tryz.f14 29) A.tmps)=true:=wanted_free hg
   refine step_call (f:=43) (args:=#[.agg #[.int .i64 k0,.int .i64 n0,.string s0,.slice a0 l0 c0],.pointer (some ⟨BM+1,0,none⟩)]) hk hw ?_ ?_
   ·unfold execOp
    simp only [ho1]
    generalize A.eval=ρ at x147 x151 ⊢
    simp [go_sem,x147,x151]
   ·obtain⟨h1,h2,h3,h4,⟨gc,hgc,h5,h6⟩,h9⟩:=hC
    refine (nread_any k0 n0 s0 a0 l0 c0 (BM+1) gc w hgc (cl n0) (Lib.hid rfl) _ (Lib.hid rfl)).mono ?_
    rintro en w' ⟨rfl,hf',hg'⟩
    refine⟨_,rfl,⟨rfl,_,hf',fun hh=>by revert hh; cases gc <;> simp⟩,⟨⟨grB h1 hg' hw3,Nat.le_trans h2 hg'.size,h3.kept hg' (fun e=>by have:=Option.some.inj e; omega),h4.kept hg' (fun e=>by have:=Option.some.inj e; omega),⟨_,hf',fun hh=>h5 (by revert hh; cases gc <;> simp),fun hh=>by have h8:=h6 hh; subst h8; revert hh; cases decide (k0=1) <;> cases decide (k1=1) <;> simp⟩,fun q q1 q2 q3=>(hg'.block q (by omega) (fun e=>q3 (Option.some.inj e))).trans (h9 q q1 q2 q3)⟩,own_kept hM hg' hbs⟩,fun j u hj hji hwt hd h=>?_⟩
    match j,h with
    | 0,h=>exact h
    | 1,h=>exact h
    | 2,h=>exact h
    | 3,h=>exact h
    | 4,h=>exact h
    | 5,h=>exact h
    | 6,h=>exact h
    | 7,h=>exact absurd rfl hji
    | 8,h=>exact h
    | 9,h=>exact h
    | 10,h=>exact h
    | 11,h=>exact h
    | 12,h=>exact h
    | 13,h=>obtain⟨h7,gb,hf,himp⟩:=h; obtain rfl:=flag_inj hf hgc; exact⟨h7,_,hf',fun hh=>himp (by revert hh; cases gb <;> simp)⟩
    | 14,h=>exact h
    | 15,h=>exact h
    | 16,h=>exact h
    | 17,h=>exact h
    | 18,h=>exact h
    | 19,h=>exact h
    | 20,h=>obtain⟨c,rfl,h0,h6⟩:=h; exact⟨c,rfl,h0,(hg'.block _ (lt_of_block h6) (fun e=>by have:=Option.some.inj e; omega)).trans h6⟩
    | 21,h=>obtain⟨a3,c3,rfl,h6⟩:=h; exact⟨a3,c3,rfl,own_kept h6 hg' hbs⟩
    | 22,h=>exact h
    | _+23,h=>trivial
 | 8,_ =>
   have ho1:=opIs ho (p:=.move (.tmp 9)) (by kernel_rfl)
   have hg:=guardIs ho (p:=none) (by kernel_rfl)
   intro e A w hA hC hp hup K hk
   have hM:=hC.2 (hup 21 (by kernel_rfl))
   replace hC:=hC.1
   replace hk:Next (regOf Tryz.f14 29) (fun w=>(fun w=>Below w3.heap.size w3 w∧w1.heap.size≤w.heap.size∧Blk w BM 25 cs∧Blk w BX 70 [.int .i64 xk,.int .i64 xn,.string xs,.slice (some ⟨b,of,none⟩) 3 xc]∧(∃ gb,FlagAt w (BM+1) gb∧(gb=true→g0=true)∧((g0&&(decide (k0=1)&&decide (k1=1)))=true→gb=true))∧(∀ q,q<base→q≠BM→q≠BM+1→w.heap[q]? = w1.heap[q]?)) w∧(fun w=>w.ownsRow base 67 3 (.slice va l.length vc) l.length (rcE.cells l)) w) (ngrT BM BX base b of xk xn xs xc k0 n0 s0 a0 l0 c0 k1 n1 s1 a1 l1 c1 sd g0 va vc cs l w3 w1) ngrD 8 e A w o.dst K:=hk.next fun v w h=>⟨h.1,fun _=>h.2⟩
   have hCM:=And.intro hC hM
   have x9:A.eval (.tmp 9) = .func (.func 43) #[] #[.pointer (some ⟨BM+1,0,none⟩)]:=filled_base hA (by kernel_rfl) b9
   have hw:Region.wanted o (yielded (regOf Tryz.f14 29) A.tmps)=true:=wanted_free hg
   exact step_pure hk hCM hw (run_move ho1 x9 w) rfl
 | 9,_ =>
   have ho1:=opIs ho (p:=.fieldAddr 70 (.tmp 17) 3) (by kernel_rfl)
   have hg:=guardIs ho (p:=none) (by kernel_rfl)
   intro e A w hA hC hp hup K hk
   have hM:=hC.2 (hup 21 (by kernel_rfl))
   replace hC:=hC.1
   replace hk:Next (regOf Tryz.f14 29) (fun w=>(fun w=>Below w3.heap.size w3 w∧w1.heap.size≤w.heap.size∧Blk w BM 25 cs∧Blk w BX 70 [.int .i64 xk,.int .i64 xn,.string xs,.slice (some ⟨b,of,none⟩) 3 xc]∧(∃ gb,FlagAt w (BM+1) gb∧(gb=true→g0=true)∧((g0&&(decide (k0=1)&&decide (k1=1)))=true→gb=true))∧(∀ q,q<base→q≠BM→q≠BM+1→w.heap[q]? = w1.heap[q]?)) w∧(fun w=>w.ownsRow base 67 3 (.slice va l.length vc) l.length (rcE.cells l)) w) (ngrT BM BX base b of xk xn xs xc k0 n0 s0 a0 l0 c0 k1 n1 s1 a1 l1 c1 sd g0 va vc cs l w3 w1) ngrD 9 e A w o.dst K:=hk.next fun v w h=>⟨h.1,fun _=>h.2⟩
   have hCM:=And.intro hC hM
   have x17:A.eval (.tmp 17) = .pointer (some ⟨BX,0,none⟩):=filled_base hA (by kernel_rfl) b17
   have hw:Region.wanted o (yielded (regOf Tryz.f14 29) A.tmps)=true:=wanted_free hg
   refine step_pure (v:=.pointer (some ⟨BX,3,none⟩)) hk hCM hw ?_ rfl
   unfold execOp
   simp only [ho1]
   generalize A.eval=ρ at x17 ⊢
   simp [go_sem,x17]
 | 10,_ =>
   have ho1:=opIs ho (p:=.load 68 (.tmp 154)) (by kernel_rfl)
   have hg:=guardIs ho (p:=none) (by kernel_rfl)
   intro e A w hA hC hp hup K hk
   have hM:=hC.2 (hup 21 (by kernel_rfl))
   replace hC:=hC.1
   replace hk:Next (regOf Tryz.f14 29) (fun w=>(fun w=>Below w3.heap.size w3 w∧w1.heap.size≤w.heap.size∧Blk w BM 25 cs∧Blk w BX 70 [.int .i64 xk,.int .i64 xn,.string xs,.slice (some ⟨b,of,none⟩) 3 xc]∧(∃ gb,FlagAt w (BM+1) gb∧(gb=true→g0=true)∧((g0&&(decide (k0=1)&&decide (k1=1)))=true→gb=true))∧(∀ q,q<base→q≠BM→q≠BM+1→w.heap[q]? = w1.heap[q]?)) w∧(fun w=>w.ownsRow base 67 3 (.slice va l.length vc) l.length (rcE.cells l)) w) (ngrT BM BX base b of xk xn xs xc k0 n0 s0 a0 l0 c0 k1 n1 s1 a1 l1 c1 sd g0 va vc cs l w3 w1) ngrD 10 e A w o.dst K:=hk.next fun v w h=>⟨h.1,fun _=>h.2⟩
   have hCM:=And.intro hC hM
   have x154:A.eval (.tmp 154) = .pointer (some ⟨BX,3,none⟩):=op_tmp hA hp 154 9 (by kernel_rfl) (by kernel_rfl) (by kernel_rfl) (hz _ rfl)
   have hw:Region.wanted o (yielded (regOf Tryz.f14 29) A.tmps)=true:=wanted_free hg
   have e1:=Blk.cell (j:=3) hC.2.2.2.1 rfl
   refine step_pure (v:=.slice (some ⟨b,of,none⟩) 3 xc) hk hCM hw ?_ rfl
   unfold execOp
   simp only [ho1]
   skip
   generalize A.eval=ρ at x154 ⊢
   simp [go_sem,x154,e1]
 | 11,_ =>
   have ho1:=opIs ho (p:=.indexAddr 68 (.tmp 155) (.const (.int .i64 1))) (by kernel_rfl)
   have hg:=guardIs ho (p:=none) (by kernel_rfl)
   intro e A w hA hC hp hup K hk
   have hM:=hC.2 (hup 21 (by kernel_rfl))
   replace hC:=hC.1
   replace hk:Next (regOf Tryz.f14 29) (fun w=>(fun w=>Below w3.heap.size w3 w∧w1.heap.size≤w.heap.size∧Blk w BM 25 cs∧Blk w BX 70 [.int .i64 xk,.int .i64 xn,.string xs,.slice (some ⟨b,of,none⟩) 3 xc]∧(∃ gb,FlagAt w (BM+1) gb∧(gb=true→g0=true)∧((g0&&(decide (k0=1)&&decide (k1=1)))=true→gb=true))∧(∀ q,q<base→q≠BM→q≠BM+1→w.heap[q]? = w1.heap[q]?)) w∧(fun w=>w.ownsRow base 67 3 (.slice va l.length vc) l.length (rcE.cells l)) w) (ngrT BM BX base b of xk xn xs xc k0 n0 s0 a0 l0 c0 k1 n1 s1 a1 l1 c1 sd g0 va vc cs l w3 w1) ngrD 11 e A w o.dst K:=hk.next fun v w h=>⟨h.1,fun _=>h.2⟩
   have hCM:=And.intro hC hM
   have x155:A.eval (.tmp 155) = .slice (some ⟨b,of,none⟩) 3 xc:=op_tmp hA hp 155 10 (by kernel_rfl) (by kernel_rfl) (by kernel_rfl) (hz _ rfl)
   have hw:Region.wanted o (yielded (regOf Tryz.f14 29) A.tmps)=true:=wanted_free hg
   refine step_pure (v:=.pointer (some ⟨b,of+4,none⟩)) hk hCM hw ?_ rfl
   unfold execOp
   simp only [ho1]
   have xc:∀ v,A.eval (.const v)=v:=fun _=>rfl
   generalize A.eval=ρ at x155 xc ⊢
   simp [go_sem,x155,xc]
 | 12,_ =>
   have ho1:=opIs ho (p:=.load 70 (.tmp 156)) (by kernel_rfl)
   have hg:=guardIs ho (p:=none) (by kernel_rfl)
   intro e A w hA hC hp hup K hk
   have hM:=hC.2 (hup 21 (by kernel_rfl))
   replace hC:=hC.1
   replace hk:Next (regOf Tryz.f14 29) (fun w=>(fun w=>Below w3.heap.size w3 w∧w1.heap.size≤w.heap.size∧Blk w BM 25 cs∧Blk w BX 70 [.int .i64 xk,.int .i64 xn,.string xs,.slice (some ⟨b,of,none⟩) 3 xc]∧(∃ gb,FlagAt w (BM+1) gb∧(gb=true→g0=true)∧((g0&&(decide (k0=1)&&decide (k1=1)))=true→gb=true))∧(∀ q,q<base→q≠BM→q≠BM+1→w.heap[q]? = w1.heap[q]?)) w∧(fun w=>w.ownsRow base 67 3 (.slice va l.length vc) l.length (rcE.cells l)) w) (ngrT BM BX base b of xk xn xs xc k0 n0 s0 a0 l0 c0 k1 n1 s1 a1 l1 c1 sd g0 va vc cs l w3 w1) ngrD 12 e A w o.dst K:=hk.next fun v w h=>⟨h.1,fun _=>h.2⟩
   have hCM:=And.intro hC hM
   have x156:A.eval (.tmp 156) = .pointer (some ⟨b,of+4,none⟩):=op_tmp hA hp 156 11 (by kernel_rfl) (by kernel_rfl) (by kernel_rfl) (hz _ rfl)
   have hw:Region.wanted o (yielded (regOf Tryz.f14 29) A.tmps)=true:=wanted_free hg
   have e0:=(World.cell?_of_block (a:=⟨b,of+4,none⟩) (hC.1.block b hb3)).trans hc4
   have e1:=(World.cell?_of_block (a:=⟨b,of+5,none⟩) (hC.1.block b hb3)).trans hc5
   have e2:=(World.cell?_of_block (a:=⟨b,of+6,none⟩) (hC.1.block b hb3)).trans hc6
   have e3:=(World.cell?_of_block (a:=⟨b,of+7,none⟩) (hC.1.block b hb3)).trans hc7
   refine step_pure (v:=.agg #[.int .i64 k1,.int .i64 n1,.string s1,.slice a1 l1 c1]) hk hCM hw ?_ rfl
   unfold execOp
   simp only [ho1]
   skip
   generalize A.eval=ρ at x156 ⊢
   simp [go_sem,x156,e0,e1,e2,e3]
 | 13,_ =>
   have ho1:=opIs ho (p:=.call { callee:=(.value (.tmp 153)),args:=#[(.tmp 157)],argTypes:=#[70] }) (by kernel_rfl)
   have hg:=guardIs ho (p:=none) (by kernel_rfl)
   intro e A w hA hC hp hup K hk
   have hM:=hC.2 (hup 21 (by kernel_rfl))
   replace hC:=hC.1
   replace hk:Next (regOf Tryz.f14 29) (fun w=>(fun w=>Below w3.heap.size w3 w∧w1.heap.size≤w.heap.size∧Blk w BM 25 cs∧Blk w BX 70 [.int .i64 xk,.int .i64 xn,.string xs,.slice (some ⟨b,of,none⟩) 3 xc]∧(∃ gb,FlagAt w (BM+1) gb∧(gb=true→g0=true)∧((g0&&(decide (k0=1)&&decide (k1=1)))=true→gb=true))∧(∀ q,q<base→q≠BM→q≠BM+1→w.heap[q]? = w1.heap[q]?)) w∧(fun w=>w.ownsRow base 67 3 (.slice va l.length vc) l.length (rcE.cells l)) w) (ngrT BM BX base b of xk xn xs xc k0 n0 s0 a0 l0 c0 k1 n1 s1 a1 l1 c1 sd g0 va vc cs l w3 w1) ngrD 13 e A w o.dst K:=hk.next fun v w h=>⟨h.1,fun _=>h.2⟩
   have hCM:=And.intro hC hM
   have x153:A.eval (.tmp 153) = .func (.func 43) #[] #[.pointer (some ⟨BM+1,0,none⟩)]:=op_tmp hA hp 153 8 (by kernel_rfl) (by kernel_rfl) (by kernel_rfl) (hz _ rfl)
   have x157:A.eval (.tmp 157) = .agg #[.int .i64 k1,.int .i64 n1,.string s1,.slice a1 l1 c1]:=op_tmp hA hp 157 12 (by kernel_rfl) (by kernel_rfl) (by kernel_rfl) (hz _ rfl)
   have hw:Region.wanted o (yielded (regOf Tryz.f14 29) A.tmps)=true:=wanted_free hg
   refine step_call (f:=43) (args:=#[.agg #[.int .i64 k1,.int .i64 n1,.string s1,.slice a1 l1 c1],.pointer (some ⟨BM+1,0,none⟩)]) hk hw ?_ ?_
   ·unfold execOp
    simp only [ho1]
    generalize A.eval=ρ at x153 x157 ⊢
    simp [go_sem,x153,x157]
   ·obtain⟨h1,h2,h3,h4,⟨gc,hgc,h5,h6⟩,h9⟩:=hC
    refine (nread_any k1 n1 s1 a1 l1 c1 (BM+1) gc w hgc (cl n1) (Lib.hid rfl) _ (Lib.hid rfl)).mono ?_
    rintro en w' ⟨rfl,hf',hg'⟩
    refine⟨_,rfl,⟨rfl,_,hf',fun hh=>by revert hh; cases gc <;> simp⟩,⟨⟨grB h1 hg' hw3,Nat.le_trans h2 hg'.size,h3.kept hg' (fun e=>by have:=Option.some.inj e; omega),h4.kept hg' (fun e=>by have:=Option.some.inj e; omega),⟨_,hf',fun hh=>h5 (by revert hh; cases gc <;> simp),fun hh=>by have h8:=h6 hh; subst h8; revert hh; cases decide (k0=1) <;> cases decide (k1=1) <;> simp⟩,fun q q1 q2 q3=>(hg'.block q (by omega) (fun e=>q3 (Option.some.inj e))).trans (h9 q q1 q2 q3)⟩,own_kept hM hg' hbs⟩,fun j u hj hji hwt hd h=>?_⟩
    match j,h with
    | 0,h=>exact h
    | 1,h=>exact h
    | 2,h=>exact h
    | 3,h=>exact h
    | 4,h=>exact h
    | 5,h=>exact h
    | 6,h=>exact h
    | 7,h=>obtain⟨h7,gb,hf,himp⟩:=h; obtain rfl:=flag_inj hf hgc; exact⟨h7,_,hf',fun hh=>himp (by revert hh; cases gb <;> simp)⟩
    | 8,h=>exact h
    | 9,h=>exact h
    | 10,h=>exact h
    | 11,h=>exact h
    | 12,h=>exact h
    | 13,h=>exact absurd rfl hji
    | 14,h=>exact h
    | 15,h=>exact h
    | 16,h=>exact h
    | 17,h=>exact h
    | 18,h=>exact h
    | 19,h=>exact h
    | 20,h=>obtain⟨c,rfl,h0,h6⟩:=h; exact⟨c,rfl,h0,(hg'.block _ (lt_of_block h6) (fun e=>by have:=Option.some.inj e; omega)).trans h6⟩
    | 21,h=>obtain⟨a3,c3,rfl,h6⟩:=h; exact⟨a3,c3,rfl,own_kept h6 hg' hbs⟩
    | 22,h=>exact h
    | _+23,h=>trivial
 | 14,_ =>
   have ho1:=opIs ho (p:=.fieldAddr 70 (.tmp 17) 3) (by kernel_rfl)
   have hg:=guardIs ho (p:=none) (by kernel_rfl)
   intro e A w hA hC hp hup K hk
   have hM:=hC.2 (hup 21 (by kernel_rfl))
   replace hC:=hC.1
   replace hk:Next (regOf Tryz.f14 29) (fun w=>(fun w=>Below w3.heap.size w3 w∧w1.heap.size≤w.heap.size∧Blk w BM 25 cs∧Blk w BX 70 [.int .i64 xk,.int .i64 xn,.string xs,.slice (some ⟨b,of,none⟩) 3 xc]∧(∃ gb,FlagAt w (BM+1) gb∧(gb=true→g0=true)∧((g0&&(decide (k0=1)&&decide (k1=1)))=true→gb=true))∧(∀ q,q<base→q≠BM→q≠BM+1→w.heap[q]? = w1.heap[q]?)) w∧(fun w=>w.ownsRow base 67 3 (.slice va l.length vc) l.length (rcE.cells l)) w) (ngrT BM BX base b of xk xn xs xc k0 n0 s0 a0 l0 c0 k1 n1 s1 a1 l1 c1 sd g0 va vc cs l w3 w1) ngrD 14 e A w o.dst K:=hk.next fun v w h=>⟨h.1,fun _=>h.2⟩
   have hCM:=And.intro hC hM
   have x17:A.eval (.tmp 17) = .pointer (some ⟨BX,0,none⟩):=filled_base hA (by kernel_rfl) b17
   have hw:Region.wanted o (yielded (regOf Tryz.f14 29) A.tmps)=true:=wanted_free hg
   refine step_pure (v:=.pointer (some ⟨BX,3,none⟩)) hk hCM hw ?_ rfl
   unfold execOp
   simp only [ho1]
   generalize A.eval=ρ at x17 ⊢
   simp [go_sem,x17]
 | 15,_ =>
   have ho1:=opIs ho (p:=.load 68 (.tmp 159)) (by kernel_rfl)
   have hg:=guardIs ho (p:=none) (by kernel_rfl)
   intro e A w hA hC hp hup K hk
   have hM:=hC.2 (hup 21 (by kernel_rfl))
   replace hC:=hC.1
   replace hk:Next (regOf Tryz.f14 29) (fun w=>(fun w=>Below w3.heap.size w3 w∧w1.heap.size≤w.heap.size∧Blk w BM 25 cs∧Blk w BX 70 [.int .i64 xk,.int .i64 xn,.string xs,.slice (some ⟨b,of,none⟩) 3 xc]∧(∃ gb,FlagAt w (BM+1) gb∧(gb=true→g0=true)∧((g0&&(decide (k0=1)&&decide (k1=1)))=true→gb=true))∧(∀ q,q<base→q≠BM→q≠BM+1→w.heap[q]? = w1.heap[q]?)) w∧(fun w=>w.ownsRow base 67 3 (.slice va l.length vc) l.length (rcE.cells l)) w) (ngrT BM BX base b of xk xn xs xc k0 n0 s0 a0 l0 c0 k1 n1 s1 a1 l1 c1 sd g0 va vc cs l w3 w1) ngrD 15 e A w o.dst K:=hk.next fun v w h=>⟨h.1,fun _=>h.2⟩
   have hCM:=And.intro hC hM
   have x159:A.eval (.tmp 159) = .pointer (some ⟨BX,3,none⟩):=op_tmp hA hp 159 14 (by kernel_rfl) (by kernel_rfl) (by kernel_rfl) (hz _ rfl)
   have hw:Region.wanted o (yielded (regOf Tryz.f14 29) A.tmps)=true:=wanted_free hg
   have e1:=Blk.cell (j:=3) hC.2.2.2.1 rfl
   refine step_pure (v:=.slice (some ⟨b,of,none⟩) 3 xc) hk hCM hw ?_ rfl
   unfold execOp
   simp only [ho1]
   skip
   generalize A.eval=ρ at x159 ⊢
   simp [go_sem,x159,e1]
 | 16,_ =>
   have ho1:=opIs ho (p:=.indexAddr 68 (.tmp 160) (.const (.int .i64 2))) (by kernel_rfl)
   have hg:=guardIs ho (p:=none) (by kernel_rfl)
   intro e A w hA hC hp hup K hk
   have hM:=hC.2 (hup 21 (by kernel_rfl))
   replace hC:=hC.1
   replace hk:Next (regOf Tryz.f14 29) (fun w=>(fun w=>Below w3.heap.size w3 w∧w1.heap.size≤w.heap.size∧Blk w BM 25 cs∧Blk w BX 70 [.int .i64 xk,.int .i64 xn,.string xs,.slice (some ⟨b,of,none⟩) 3 xc]∧(∃ gb,FlagAt w (BM+1) gb∧(gb=true→g0=true)∧((g0&&(decide (k0=1)&&decide (k1=1)))=true→gb=true))∧(∀ q,q<base→q≠BM→q≠BM+1→w.heap[q]? = w1.heap[q]?)) w∧(fun w=>w.ownsRow base 67 3 (.slice va l.length vc) l.length (rcE.cells l)) w) (ngrT BM BX base b of xk xn xs xc k0 n0 s0 a0 l0 c0 k1 n1 s1 a1 l1 c1 sd g0 va vc cs l w3 w1) ngrD 16 e A w o.dst K:=hk.next fun v w h=>⟨h.1,fun _=>h.2⟩
   have hCM:=And.intro hC hM
   have x160:A.eval (.tmp 160) = .slice (some ⟨b,of,none⟩) 3 xc:=op_tmp hA hp 160 15 (by kernel_rfl) (by kernel_rfl) (by kernel_rfl) (hz _ rfl)
   have hw:Region.wanted o (yielded (regOf Tryz.f14 29) A.tmps)=true:=wanted_free hg
   refine step_pure (v:=.pointer (some ⟨b,of+8,none⟩)) hk hCM hw ?_ rfl
   unfold execOp
   simp only [ho1]
   have xc:∀ v,A.eval (.const v)=v:=fun _=>rfl
   generalize A.eval=ρ at x160 xc ⊢
   simp [go_sem,x160,xc]
 | 17,_ =>
   have ho1:=opIs ho (p:=.fieldAddr 70 (.tmp 161) 2) (by kernel_rfl)
   have hg:=guardIs ho (p:=none) (by kernel_rfl)
   intro e A w hA hC hp hup K hk
   have hM:=hC.2 (hup 21 (by kernel_rfl))
   replace hC:=hC.1
   replace hk:Next (regOf Tryz.f14 29) (fun w=>(fun w=>Below w3.heap.size w3 w∧w1.heap.size≤w.heap.size∧Blk w BM 25 cs∧Blk w BX 70 [.int .i64 xk,.int .i64 xn,.string xs,.slice (some ⟨b,of,none⟩) 3 xc]∧(∃ gb,FlagAt w (BM+1) gb∧(gb=true→g0=true)∧((g0&&(decide (k0=1)&&decide (k1=1)))=true→gb=true))∧(∀ q,q<base→q≠BM→q≠BM+1→w.heap[q]? = w1.heap[q]?)) w∧(fun w=>w.ownsRow base 67 3 (.slice va l.length vc) l.length (rcE.cells l)) w) (ngrT BM BX base b of xk xn xs xc k0 n0 s0 a0 l0 c0 k1 n1 s1 a1 l1 c1 sd g0 va vc cs l w3 w1) ngrD 17 e A w o.dst K:=hk.next fun v w h=>⟨h.1,fun _=>h.2⟩
   have hCM:=And.intro hC hM
   have x161:A.eval (.tmp 161) = .pointer (some ⟨b,of+8,none⟩):=op_tmp hA hp 161 16 (by kernel_rfl) (by kernel_rfl) (by kernel_rfl) (hz _ rfl)
   have hw:Region.wanted o (yielded (regOf Tryz.f14 29) A.tmps)=true:=wanted_free hg
   refine step_pure (v:=.pointer (some ⟨b,of+10,none⟩)) hk hCM hw ?_ rfl
   unfold execOp
   simp only [ho1]
   skip
   generalize A.eval=ρ at x161 ⊢
   simp [go_sem,x161]
 | 18,_ =>
   have ho1:=opIs ho (p:=.load 9 (.tmp 162)) (by kernel_rfl)
   have hg:=guardIs ho (p:=none) (by kernel_rfl)
   intro e A w hA hC hp hup K hk
   have hM:=hC.2 (hup 21 (by kernel_rfl))
   replace hC:=hC.1
   replace hk:Next (regOf Tryz.f14 29) (fun w=>(fun w=>Below w3.heap.size w3 w∧w1.heap.size≤w.heap.size∧Blk w BM 25 cs∧Blk w BX 70 [.int .i64 xk,.int .i64 xn,.string xs,.slice (some ⟨b,of,none⟩) 3 xc]∧(∃ gb,FlagAt w (BM+1) gb∧(gb=true→g0=true)∧((g0&&(decide (k0=1)&&decide (k1=1)))=true→gb=true))∧(∀ q,q<base→q≠BM→q≠BM+1→w.heap[q]? = w1.heap[q]?)) w∧(fun w=>w.ownsRow base 67 3 (.slice va l.length vc) l.length (rcE.cells l)) w) (ngrT BM BX base b of xk xn xs xc k0 n0 s0 a0 l0 c0 k1 n1 s1 a1 l1 c1 sd g0 va vc cs l w3 w1) ngrD 18 e A w o.dst K:=hk.next fun v w h=>⟨h.1,fun _=>h.2⟩
   have hCM:=And.intro hC hM
   have x162:A.eval (.tmp 162) = .pointer (some ⟨b,of+10,none⟩):=op_tmp hA hp 162 17 (by kernel_rfl) (by kernel_rfl) (by kernel_rfl) (hz _ rfl)
   have hw:Region.wanted o (yielded (regOf Tryz.f14 29) A.tmps)=true:=wanted_free hg
   have e0:=(World.cell?_of_block (a:=⟨b,of+10,none⟩) (hC.1.block b hb3)).trans hc10
   refine step_pure (v:=.string sd) hk hCM hw ?_ rfl
   unfold execOp
   simp only [ho1]
   skip
   generalize A.eval=ρ at x162 ⊢
   simp [go_sem,x162,e0]
 | 19,_ =>
   have ho1:=opIs ho (p:=.build 67 #[(0,(.tmp 152)),(1,(.tmp 158)),(2,(.tmp 163))]) (by kernel_rfl)
   have hg:=guardIs ho (p:=none) (by kernel_rfl)
   intro e A w hA hC hp hup K hk
   have hM:=hC.2 (hup 21 (by kernel_rfl))
   replace hC:=hC.1
   replace hk:Next (regOf Tryz.f14 29) (fun w=>(fun w=>Below w3.heap.size w3 w∧w1.heap.size≤w.heap.size∧Blk w BM 25 cs∧Blk w BX 70 [.int .i64 xk,.int .i64 xn,.string xs,.slice (some ⟨b,of,none⟩) 3 xc]∧(∃ gb,FlagAt w (BM+1) gb∧(gb=true→g0=true)∧((g0&&(decide (k0=1)&&decide (k1=1)))=true→gb=true))∧(∀ q,q<base→q≠BM→q≠BM+1→w.heap[q]? = w1.heap[q]?)) w∧(fun w=>w.ownsRow base 67 3 (.slice va l.length vc) l.length (rcE.cells l)) w) (ngrT BM BX base b of xk xn xs xc k0 n0 s0 a0 l0 c0 k1 n1 s1 a1 l1 c1 sd g0 va vc cs l w3 w1) ngrD 19 e A w o.dst K:=hk.next fun v w h=>⟨h.1,fun _=>h.2⟩
   have hCM:=And.intro hC hM
   have x152:=op_tmp hA hp 152 7 (by kernel_rfl) (by kernel_rfl) (by kernel_rfl) (hz _ rfl)
   have x158:=op_tmp hA hp 158 13 (by kernel_rfl) (by kernel_rfl) (by kernel_rfl) (hz _ rfl)
   have x163:A.eval (.tmp 163) = .string sd:=op_tmp hA hp 163 18 (by kernel_rfl) (by kernel_rfl) (by kernel_rfl) (hz _ rfl)
   have hw:Region.wanted o (yielded (regOf Tryz.f14 29) A.tmps)=true:=wanted_free hg
   obtain⟨x152,-⟩:=x152
   obtain⟨x158,-⟩:=x158
   refine step_pure (v:=.agg #[.int .i64 (cl n0),.int .i64 (cl n1),.string sd]) hk hCM hw ?_ rfl
   unfold execOp
   simp only [ho1]
   generalize A.eval=ρ at x152 x158 x163 ⊢
   simp [go_sem,x152,x158,x163]
 | 20,_ =>
   have ho1:=opIs ho (p:=.buildSlice 22 1 #[(0,(.tmp 164))]) (by kernel_rfl)
   have hg:=guardIs ho (p:=none) (by kernel_rfl)
   intro e A w hA hC hp hup K hk
   have hM:=hC.2 (hup 21 (by kernel_rfl))
   replace hC:=hC.1
   replace hk:Next (regOf Tryz.f14 29) (fun w=>(fun w=>Below w3.heap.size w3 w∧w1.heap.size≤w.heap.size∧Blk w BM 25 cs∧Blk w BX 70 [.int .i64 xk,.int .i64 xn,.string xs,.slice (some ⟨b,of,none⟩) 3 xc]∧(∃ gb,FlagAt w (BM+1) gb∧(gb=true→g0=true)∧((g0&&(decide (k0=1)&&decide (k1=1)))=true→gb=true))∧(∀ q,q<base→q≠BM→q≠BM+1→w.heap[q]? = w1.heap[q]?)) w∧(fun w=>w.ownsRow base 67 3 (.slice va l.length vc) l.length (rcE.cells l)) w) (ngrT BM BX base b of xk xn xs xc k0 n0 s0 a0 l0 c0 k1 n1 s1 a1 l1 c1 sd g0 va vc cs l w3 w1) ngrD 20 e A w o.dst K:=hk.next fun v w h=>⟨h.1,fun _=>h.2⟩
   have hCM:=And.intro hC hM
   have x164:A.eval (.tmp 164) = .agg #[.int .i64 (cl n0),.int .i64 (cl n1),.string sd]:=op_tmp hA hp 164 19 (by kernel_rfl) (by kernel_rfl) (by kernel_rfl) (hz _ rfl)
   have hw:Region.wanted o (yielded (regOf Tryz.f14 29) A.tmps)=true:=wanted_free hg
   refine step_value (v:=.slice (some ⟨w.heap.size,0,none⟩) 1 1) (w':=w.alloc (.cells #[.int .i64 (cl n0),.int .i64 (cl n1),.string sd] 67)) hk hw ?_ ?_ ?_ ?_
   ·unfold execOp
    simp only [ho1]
    generalize A.eval=ρ at x164 ⊢
    simp [go_sem,x164]
   ·exact⟨w.heap.size,rfl,hC.2.1,heap_alloc_new w _⟩
   ·exact⟨⟨hC.1.alloc hC.1.size _,by have:=hC.2.1; simp; omega,hC.2.2.1.alloc _,hC.2.2.2.1.alloc _,by obtain⟨⟨gb,hf,h6⟩,-⟩:=hC.2.2.2.2; exact⟨gb,(heap_alloc_old w _ (lt_of_block hf)).trans hf,h6⟩,fun q h1 h2 h3=>(heap_alloc_old w _ (by have:=hC.2.1; omega)).trans (hC.2.2.2.2.2 q h1 h2 h3)⟩,own_under hM ((Below.refl _ w).alloc (Nat.le_refl _) _)⟩
   ·intro j u _ _ _ _ h
    exact ngr_keep BM BX base b of xk xn xs xc k0 n0 s0 a0 l0 c0 k1 n1 s1 a1 l1 c1 sd g0 va vc cs l w3 w1 j u w _ ((Below.refl _ w).alloc (Nat.le_refl _) _) h
 | 21,_ =>
   have ho1:=opIs ho (p:=.call { callee:=(.builtin .append),args:=#[(.tmp 146),(.tmp 165)],argTypes:=#[22,22] }) (by kernel_rfl)
   have hg:=guardIs ho (p:=none) (by kernel_rfl)
   intro e A w hA hC hp hup K hk
   have hM:=hC.2 (hup 21 (by kernel_rfl))
   have x146:A.eval (.tmp 146) = .slice va l.length vc:=op_tmp hA hp 146 1 (by kernel_rfl) (by kernel_rfl) (by kernel_rfl) (hz _ rfl)
   have x165:=op_tmp hA hp 165 20 (by kernel_rfl) (by kernel_rfl) (by kernel_rfl) (hz _ rfl)
   have hw:Region.wanted o (yielded (regOf Tryz.f14 29) A.tmps)=true:=wanted_free hg
   obtain⟨c,x165,hc0',h3⟩:=x165
   have hle:=hC.1.2.1
   obtain⟨i0,hi0,hz0,hz1,hz2⟩:=infoR
   obtain⟨a3,c3,w',hr,ho,hg⟩:=rowApp i0 hi0 hz0 hz1 hz2 rfl (by decide) hM c [.int .i64 (cl n0),.int .i64 (cl n1),.string sd] _ 22 o.type hV h3 rfl (by intro u hu; simp at hu; rcases hu with rfl | rfl | rfl <;> rfl) hn (by decide) (Nat.le_trans hbw hle)
   have hO:∀ p,p<base→some p≠(Value.slice va l.length vc).ownBlock:=fun p hp e=>by have:=(hM.lt _ e.symm).1; omega
   rw [if_pos hw]
   unfold Oper.wp
   rw [show (execOp A.eval o).run Tryz.prog w = .ok (.value (.slice a3 (l.length+1) c3)) w' by
    unfold execOp
    simp only [ho1,resolve,invoke,builtin,Sem.run_bind,Sem.run_pure,Result.andThen_ok,List.map_toArray,List.map_cons,List.map_nil,x146,x165,hr]]
   obtain⟨⟨h1,h2,h3',h4,⟨gc,hgc,h5⟩,h9⟩,-⟩:=hC
   have hf:∀ b,FlagAt w (BM+1) b→FlagAt w' (BM+1) b:=fun b h=>(hg.block _ (lt_of_block h) (hO _ hbs)).trans h
   refine hk _ _ ⟨a3,c3,rfl,by rw [rcE.cells_append]; exact ho⟩ ⟨⟨h1.grown hg h1.size (fun q e=>by have:=(hM.lt q e).1; omega),Nat.le_trans h2 hg.size,h3'.kept hg (hO _ (by omega)),h4.kept hg hXn,⟨gc,hf _ hgc,h5⟩,fun q q1 q2 q3=>(hg.block q (by omega) (hO q q1)).trans (h9 q q1 q2 q3)⟩,fun h=>by rw [Vals.set_same] at h; cases h⟩ ?_
   intro j u hj hji _ hd h
   match j,h with
   | 0,h=>exact h
   | 1,h=>exact h
   | 2,h=>exact h
   | 3,h=>exact h
   | 4,h=>exact h
   | 5,h=>exact h
   | 6,h=>exact h
   | 7,h=>obtain⟨h7,gb,hf7,himp⟩:=h; exact⟨h7,gb,hf _ hf7,himp⟩
   | 8,h=>exact h
   | 9,h=>exact h
   | 10,h=>exact h
   | 11,h=>exact h
   | 12,h=>exact h
   | 13,h=>obtain⟨h7,gb,hf7,himp⟩:=h; exact⟨h7,gb,hf _ hf7,himp⟩
   | 14,h=>exact h
   | 15,h=>exact h
   | 16,h=>exact h
   | 17,h=>exact h
   | 18,h=>exact h
   | 19,h=>exact h
   | 20,h=>exact absurd rfl (hd 21 (by rw [hsz]; decide) rfl).1
   | 21,h=>exact absurd rfl hji
   | 22,h=>exact h
   | _+23,h=>trivial
 | 22,_ =>
   have ho1:=opIs ho (p:=.fieldAddr 25 (.tmp 7) 7) (by kernel_rfl)
   have hg:=guardIs ho (p:=none) (by kernel_rfl)
   intro e A w hA hC hp hup K hk
   replace hk:Next (regOf Tryz.f14 29) (fun w=>(fun w=>Below w3.heap.size w3 w∧w1.heap.size≤w.heap.size∧Blk w BM 25 cs∧Blk w BX 70 [.int .i64 xk,.int .i64 xn,.string xs,.slice (some ⟨b,of,none⟩) 3 xc]∧(∃ gb,FlagAt w (BM+1) gb∧(gb=true→g0=true)∧((g0&&(decide (k0=1)&&decide (k1=1)))=true→gb=true))∧(∀ q,q<base→q≠BM→q≠BM+1→w.heap[q]? = w1.heap[q]?)) w∧(e 21=none→(fun w=>w.ownsRow base 67 3 (.slice va l.length vc) l.length (rcE.cells l)) w)) (ngrT BM BX base b of xk xn xs xc k0 n0 s0 a0 l0 c0 k1 n1 s1 a1 l1 c1 sd g0 va vc cs l w3 w1) ngrD 22 e A w o.dst K:=hk.next fun v w h=>⟨h.1,fun he=>h.2 (by rwa [Vals.set_other e v (by decide)] at he)⟩
   have hCM:=hC
   have x7:A.eval (.tmp 7) = .pointer (some ⟨BM,0,none⟩):=filled_base hA (by kernel_rfl) b7
   have hw:Region.wanted o (yielded (regOf Tryz.f14 29) A.tmps)=true:=wanted_free hg
   refine step_pure (v:=.pointer (some ⟨BM,7,none⟩)) hk hCM hw ?_ rfl
   unfold execOp
   simp only [ho1]
   generalize A.eval=ρ at x7 ⊢
   simp [go_sem,x7]
 | _+23,h=>exact absurd h (by omega)
end Go.Proofs.YtlpgbmaoenncjaaGreatDoor

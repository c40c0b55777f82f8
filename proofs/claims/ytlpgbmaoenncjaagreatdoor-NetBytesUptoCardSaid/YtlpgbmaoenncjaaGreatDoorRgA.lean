/-
  The reference's small, and the region of its Get that appends a record (its order is drawn); without a condition. (Written by wip/mkrg.py.)
-/
import Derived.Test.YtlpgbmaoenncjaaGreatDoorNgB
namespace Go.Proofs.YtlpgbmaoenncjaaGreatDoor
open Go.RowKit
set_option linter.unusedVariables false
set_option maxRecDepth 100000 in
set_option maxHeartbeats 1000000 in
theorem rsmall_any (k n:Int) (s:ByteArray) (a:Option Addr) (l c:Nat) (w:World) (v:Bool) (hv:Hid (v=decide (k=1∧0≤n∧n≤1073741824))) :
 Calls Tryz.prog 46 #[.agg #[.int .i64 k,.int .i64 n,.string s,.slice a l c]] w (fun e w'=>e = .returned (.bool v)∧Below w.heap.size w w'):=by
 have HB:=Lib.hid ((Below.refl w.heap.size w).alloc (Nat.le_refl _) (.cells #[.int .i64 k,.int .i64 n,.string s,.slice a l c] 70))
 have HF:=Lib.hid (Four.new w 70 (.int .i64 k) (.int .i64 n) (.string s) (.slice a l c))
 have n0:=HF.out.c0
 have n1:=HF.out.c1
 by_cases hk:k=1
 ·subst hk
  by_cases h0:0≤n
  ·by_cases h1:n≤1073741824
   ·obtain rfl:v=true:=by rw [hv.out]; simp [h0,h1]
    go_enter Tryz.func46,Tryz.ntmps46
    go_wp2_with fail
    go_ret
    exact⟨rfl,HB.out⟩
   ·have h2:1073741824<n:=by omega
    obtain rfl:v=false:=by rw [hv.out]; simp [h0,h1]
    go_enter Tryz.func46,Tryz.ntmps46
    go_wp2_with fail
    go_ret
    exact⟨rfl,HB.out⟩
  ·have h2:n<0:=by omega
   obtain rfl:v=false:=by rw [hv.out]; simp [h0]
   go_enter Tryz.func46,Tryz.ntmps46
   go_wp2_with fail
   go_ret
   exact⟨rfl,HB.out⟩
 ·have hk2:(k==1)=false:=by simpa using hk
  obtain rfl:v=false:=by rw [hv.out]; simp [hk]
  go_enter Tryz.func46,Tryz.ntmps46
  go_wp2_with fail
  go_ret
  exact⟨rfl,HB.out⟩
def rgrT (BM BX base b of:Nat) (xk xn:Int) (xs:ByteArray) (xc:Nat) (n0 n1:Int) (sd:ByteArray) (va:Option Addr) (vc:Nat) (cs:List Value) (l:List Rc) (w3 w1:World):Nat→Value→World→Prop
 | 0,v,w=>v = .pointer (some ⟨BM,7,none⟩)
 | 1,v,w=>v = .slice va l.length vc
 | 2,v,w=>v = .pointer (some ⟨BX,3,none⟩)
 | 3,v,w=>v = .slice (some ⟨b,of,none⟩) 3 xc
 | 4,v,w=>v = .pointer (some ⟨b,of,none⟩)
 | 5,v,w=>v = .pointer (some ⟨b,of+1,none⟩)
 | 6,v,w=>v = .int .i64 n0
 | 7,v,w=>v = .pointer (some ⟨BX,3,none⟩)
 | 8,v,w=>v = .slice (some ⟨b,of,none⟩) 3 xc
 | 9,v,w=>v = .pointer (some ⟨b,of+4,none⟩)
 | 10,v,w=>v = .pointer (some ⟨b,of+5,none⟩)
 | 11,v,w=>v = .int .i64 n1
 | 12,v,w=>v = .pointer (some ⟨BX,3,none⟩)
 | 13,v,w=>v = .slice (some ⟨b,of,none⟩) 3 xc
 | 14,v,w=>v = .pointer (some ⟨b,of+8,none⟩)
 | 15,v,w=>v = .pointer (some ⟨b,of+10,none⟩)
 | 16,v,w=>v = .string sd
 | 17,v,w=>v = .agg #[.int .i64 n0,.int .i64 n1,.string sd]
 | 18,v,w=>∃ c,v = .slice (some ⟨c,0,none⟩) 1 1∧w1.heap.size≤c∧w.heap[c]? = some (.cells #[.int .i64 n0,.int .i64 n1,.string sd] 67 (0,0))
 | 19,v,w=>∃ a3 c3,v = .slice a3 (l.length+1) c3∧w.ownsRow base 67 3 (.slice a3 (l.length+1) c3) (l.length+1) (rcE.cells (l++[⟨n0,n1,sd⟩]))
 | 20,v,w=>v = .pointer (some ⟨BM,7,none⟩)
 | _,_,_=>True
def rgrD:Nat→List Nat
 | 19=>[18]
 | _=>[]
theorem rgr_keep (BM BX base b of:Nat) (xk xn:Int) (xs:ByteArray) (xc:Nat) (n0 n1:Int) (sd:ByteArray) (va:Option Addr) (vc:Nat) (cs:List Value) (l:List Rc) (w3 w1:World):∀ (j:Nat) (u:Value) (w w':World),Below w.heap.size w w'→(rgrT BM BX base b of xk xn xs xc n0 n1 sd va vc cs l w3 w1) j u w→(rgrT BM BX base b of xk xn xs xc n0 n1 sd va vc cs l w3 w1) j u w'
 | 18,u,w,w',hb,h=>by obtain⟨c,rfl,h0,h1⟩:=h; exact⟨c,rfl,h0,(hb.block _ (lt_of_block h1)).trans h1⟩
 | 19,u,w,w',hb,h=>by obtain⟨a3,c3,rfl,h1⟩:=h; exact⟨a3,c3,rfl,own_under h1 hb⟩
 | 0,u,w,w',hb,h=>h
 | 1,u,w,w',hb,h=>h
 | 2,u,w,w',hb,h=>h
 | 3,u,w,w',hb,h=>h
 | 4,u,w,w',hb,h=>h
 | 5,u,w,w',hb,h=>h
 | 6,u,w,w',hb,h=>h
 | 7,u,w,w',hb,h=>h
 | 8,u,w,w',hb,h=>h
 | 9,u,w,w',hb,h=>h
 | 10,u,w,w',hb,h=>h
 | 11,u,w,w',hb,h=>h
 | 12,u,w,w',hb,h=>h
 | 13,u,w,w',hb,h=>h
 | 14,u,w,w',hb,h=>h
 | 15,u,w,w',hb,h=>h
 | 16,u,w,w',hb,h=>h
 | 17,u,w,w',hb,h=>h
 | 20,u,w,w',hb,h=>h
 | _+21,u,w,w',hb,h=>trivial
set_option maxHeartbeats 4000000 in
theorem rgr_steps (BM BX base b of:Nat) (xk xn:Int) (xs:ByteArray) (xc:Nat) (n0 n1:Int) (sd:ByteArray) (va:Option Addr) (vc:Nat) (cs:List Value) (l:List Rc) (w3 w1:World) (hw3:w3.heap.size≤BM) (hX:BM<BX) (hXb:BX<w1.heap.size) (hbs:BM<base) (hbw:base≤w1.heap.size) (hXn:some BX≠(Value.slice va l.length vc).ownBlock) (hcs:cs[7]? = some (.slice va l.length vc)) (hn:l.length≤1000000) (hb3:b<w3.heap.size) (hc1:w3.cell? ⟨b,of+1,none⟩=some (.int .i64 n0)) (hc5:w3.cell? ⟨b,of+5,none⟩=some (.int .i64 n1)) (hc10:w3.cell? ⟨b,of+10,none⟩=some (.string sd)) (hV:Tryz.prog.underlying 22 = some (.slice 67)) {a:Act}(hs:a.tmps.size=219) (b9:a.eval (.tmp 9) = .pointer (some ⟨BM,0,none⟩)) (b13:a.eval (.tmp 13) = .pointer (some ⟨BX,0,none⟩)):∀ i o,i<21→(regOf Tryz.f15 25)[i]? = some o→StepOkE Tryz.prog (regOf Tryz.f15 25) a (fun e w=>(fun w=>Below w3.heap.size w3 w∧w1.heap.size≤w.heap.size∧Blk w BM 25 cs∧Blk w BX 70 [.int .i64 xk,.int .i64 xn,.string xs,.slice (some ⟨b,of,none⟩) 3 xc]∧(∀ q,q<base→q≠BM→w.heap[q]? = w1.heap[q]?)) w∧(e 19=none→(fun w=>w.ownsRow base 67 3 (.slice va l.length vc) l.length (rcE.cells l)) w)) (rgrT BM BX base b of xk xn xs xc n0 n1 sd va vc cs l w3 w1) rgrD i o:=by
 have hz:∀ t,Nat.blt t 219=true→Nat.blt t a.tmps.size=true:=fun t h=>by rw [hs]; exact h
 have hsz:(regOf Tryz.f15 25).size=22:=by kernel_rfl
 intro i o hii ho
 match i,hii with
 | 0,_ =>
   have ho1:=opIs ho (p:=.fieldAddr 25 (.tmp 9) 7) (by kernel_rfl)
   have hg:=guardIs ho (p:=none) (by kernel_rfl)
   intro e A w hA hC hp hup K hk
   have hM:=hC.2 (hup 19 (by kernel_rfl))
   replace hC:=hC.1
   replace hk:Next (regOf Tryz.f15 25) (fun w=>(fun w=>Below w3.heap.size w3 w∧w1.heap.size≤w.heap.size∧Blk w BM 25 cs∧Blk w BX 70 [.int .i64 xk,.int .i64 xn,.string xs,.slice (some ⟨b,of,none⟩) 3 xc]∧(∀ q,q<base→q≠BM→w.heap[q]? = w1.heap[q]?)) w∧(fun w=>w.ownsRow base 67 3 (.slice va l.length vc) l.length (rcE.cells l)) w) (rgrT BM BX base b of xk xn xs xc n0 n1 sd va vc cs l w3 w1) rgrD 0 e A w o.dst K:=hk.next fun v w h=>⟨h.1,fun _=>h.2⟩
   have hCM:=And.intro hC hM
   have x9:A.eval (.tmp 9) = .pointer (some ⟨BM,0,none⟩):=filled_base hA (by kernel_rfl) b9
   have hw:Region.wanted o (yielded (regOf Tryz.f15 25) A.tmps)=true:=wanted_free hg
   refine step_pure (v:=.pointer (some ⟨BM,7,none⟩)) hk hCM hw ?_ rfl
   unfold execOp
   simp only [ho1]
   generalize A.eval=ρ at x9 ⊢
   simp [go_sem,x9]
 | 1,_ =>
   have ho1:=opIs ho (p:=.load 22 (.tmp 184)) (by kernel_rfl)
   have hg:=guardIs ho (p:=none) (by kernel_rfl)
   intro e A w hA hC hp hup K hk
   have hM:=hC.2 (hup 19 (by kernel_rfl))
   replace hC:=hC.1
   replace hk:Next (regOf Tryz.f15 25) (fun w=>(fun w=>Below w3.heap.size w3 w∧w1.heap.size≤w.heap.size∧Blk w BM 25 cs∧Blk w BX 70 [.int .i64 xk,.int .i64 xn,.string xs,.slice (some ⟨b,of,none⟩) 3 xc]∧(∀ q,q<base→q≠BM→w.heap[q]? = w1.heap[q]?)) w∧(fun w=>w.ownsRow base 67 3 (.slice va l.length vc) l.length (rcE.cells l)) w) (rgrT BM BX base b of xk xn xs xc n0 n1 sd va vc cs l w3 w1) rgrD 1 e A w o.dst K:=hk.next fun v w h=>⟨h.1,fun _=>h.2⟩
   have hCM:=And.intro hC hM
   have x184:A.eval (.tmp 184) = .pointer (some ⟨BM,7,none⟩):=op_tmp hA hp 184 0 (by kernel_rfl) (by kernel_rfl) (by kernel_rfl) (hz _ rfl)
   have hw:Region.wanted o (yielded (regOf Tryz.f15 25) A.tmps)=true:=wanted_free hg
   have e1:=Blk.cell hC.2.2.1 hcs
   refine step_pure (v:=.slice va l.length vc) hk hCM hw ?_ rfl
   unfold execOp
   simp only [ho1]
   skip
   generalize A.eval=ρ at x184 ⊢
   simp [go_sem,x184,e1]
 | 2,_ =>
   have ho1:=opIs ho (p:=.fieldAddr 70 (.tmp 13) 3) (by kernel_rfl)
   have hg:=guardIs ho (p:=none) (by kernel_rfl)
   intro e A w hA hC hp hup K hk
   have hM:=hC.2 (hup 19 (by kernel_rfl))
   replace hC:=hC.1
   replace hk:Next (regOf Tryz.f15 25) (fun w=>(fun w=>Below w3.heap.size w3 w∧w1.heap.size≤w.heap.size∧Blk w BM 25 cs∧Blk w BX 70 [.int .i64 xk,.int .i64 xn,.string xs,.slice (some ⟨b,of,none⟩) 3 xc]∧(∀ q,q<base→q≠BM→w.heap[q]? = w1.heap[q]?)) w∧(fun w=>w.ownsRow base 67 3 (.slice va l.length vc) l.length (rcE.cells l)) w) (rgrT BM BX base b of xk xn xs xc n0 n1 sd va vc cs l w3 w1) rgrD 2 e A w o.dst K:=hk.next fun v w h=>⟨h.1,fun _=>h.2⟩
   have hCM:=And.intro hC hM
   have x13:A.eval (.tmp 13) = .pointer (some ⟨BX,0,none⟩):=filled_base hA (by kernel_rfl) b13
   have hw:Region.wanted o (yielded (regOf Tryz.f15 25) A.tmps)=true:=wanted_free hg
   refine step_pure (v:=.pointer (some ⟨BX,3,none⟩)) hk hCM hw ?_ rfl
   unfold execOp
   simp only [ho1]
   generalize A.eval=ρ at x13 ⊢
   simp [go_sem,x13]
 | 3,_ =>
   have ho1:=opIs ho (p:=.load 68 (.tmp 186)) (by kernel_rfl)
   have hg:=guardIs ho (p:=none) (by kernel_rfl)
   intro e A w hA hC hp hup K hk
   have hM:=hC.2 (hup 19 (by kernel_rfl))
   replace hC:=hC.1
   replace hk:Next (regOf Tryz.f15 25) (fun w=>(fun w=>Below w3.heap.size w3 w∧w1.heap.size≤w.heap.size∧Blk w BM 25 cs∧Blk w BX 70 [.int .i64 xk,.int .i64 xn,.string xs,.slice (some ⟨b,of,none⟩) 3 xc]∧(∀ q,q<base→q≠BM→w.heap[q]? = w1.heap[q]?)) w∧(fun w=>w.ownsRow base 67 3 (.slice va l.length vc) l.length (rcE.cells l)) w) (rgrT BM BX base b of xk xn xs xc n0 n1 sd va vc cs l w3 w1) rgrD 3 e A w o.dst K:=hk.next fun v w h=>⟨h.1,fun _=>h.2⟩
   have hCM:=And.intro hC hM
   have x186:A.eval (.tmp 186) = .pointer (some ⟨BX,3,none⟩):=op_tmp hA hp 186 2 (by kernel_rfl) (by kernel_rfl) (by kernel_rfl) (hz _ rfl)
   have hw:Region.wanted o (yielded (regOf Tryz.f15 25) A.tmps)=true:=wanted_free hg
   have e1:=Blk.cell (j:=3) hC.2.2.2.1 rfl
   refine step_pure (v:=.slice (some ⟨b,of,none⟩) 3 xc) hk hCM hw ?_ rfl
   unfold execOp
   simp only [ho1]
   skip
   generalize A.eval=ρ at x186 ⊢
   simp [go_sem,x186,e1]
 | 4,_ =>
   have ho1:=opIs ho (p:=.indexAddr 68 (.tmp 187) (.const (.int .i64 0))) (by kernel_rfl)
   have hg:=guardIs ho (p:=none) (by kernel_rfl)
   intro e A w hA hC hp hup K hk
   have hM:=hC.2 (hup 19 (by kernel_rfl))
   replace hC:=hC.1
   replace hk:Next (regOf Tryz.f15 25) (fun w=>(fun w=>Below w3.heap.size w3 w∧w1.heap.size≤w.heap.size∧Blk w BM 25 cs∧Blk w BX 70 [.int .i64 xk,.int .i64 xn,.string xs,.slice (some ⟨b,of,none⟩) 3 xc]∧(∀ q,q<base→q≠BM→w.heap[q]? = w1.heap[q]?)) w∧(fun w=>w.ownsRow base 67 3 (.slice va l.length vc) l.length (rcE.cells l)) w) (rgrT BM BX base b of xk xn xs xc n0 n1 sd va vc cs l w3 w1) rgrD 4 e A w o.dst K:=hk.next fun v w h=>⟨h.1,fun _=>h.2⟩
   have hCM:=And.intro hC hM
   have x187:A.eval (.tmp 187) = .slice (some ⟨b,of,none⟩) 3 xc:=op_tmp hA hp 187 3 (by kernel_rfl) (by kernel_rfl) (by kernel_rfl) (hz _ rfl)
   have hw:Region.wanted o (yielded (regOf Tryz.f15 25) A.tmps)=true:=wanted_free hg
   refine step_pure (v:=.pointer (some ⟨b,of,none⟩)) hk hCM hw ?_ rfl
   unfold execOp
   simp only [ho1]
   have xc:∀ v,A.eval (.const v)=v:=fun _=>rfl
   generalize A.eval=ρ at x187 xc ⊢
   simp [go_sem,x187,xc]
 | 5,_ =>
   have ho1:=opIs ho (p:=.fieldAddr 70 (.tmp 188) 1) (by kernel_rfl)
   have hg:=guardIs ho (p:=none) (by kernel_rfl)
   intro e A w hA hC hp hup K hk
   have hM:=hC.2 (hup 19 (by kernel_rfl))
   replace hC:=hC.1
   replace hk:Next (regOf Tryz.f15 25) (fun w=>(fun w=>Below w3.heap.size w3 w∧w1.heap.size≤w.heap.size∧Blk w BM 25 cs∧Blk w BX 70 [.int .i64 xk,.int .i64 xn,.string xs,.slice (some ⟨b,of,none⟩) 3 xc]∧(∀ q,q<base→q≠BM→w.heap[q]? = w1.heap[q]?)) w∧(fun w=>w.ownsRow base 67 3 (.slice va l.length vc) l.length (rcE.cells l)) w) (rgrT BM BX base b of xk xn xs xc n0 n1 sd va vc cs l w3 w1) rgrD 5 e A w o.dst K:=hk.next fun v w h=>⟨h.1,fun _=>h.2⟩
   have hCM:=And.intro hC hM
   have x188:A.eval (.tmp 188) = .pointer (some ⟨b,of,none⟩):=op_tmp hA hp 188 4 (by kernel_rfl) (by kernel_rfl) (by kernel_rfl) (hz _ rfl)
   have hw:Region.wanted o (yielded (regOf Tryz.f15 25) A.tmps)=true:=wanted_free hg
   refine step_pure (v:=.pointer (some ⟨b,of+1,none⟩)) hk hCM hw ?_ rfl
   unfold execOp
   simp only [ho1]
   skip
   generalize A.eval=ρ at x188 ⊢
   simp [go_sem,x188]
 | 6,_ =>
   have ho1:=opIs ho (p:=.load 2 (.tmp 189)) (by kernel_rfl)
   have hg:=guardIs ho (p:=none) (by kernel_rfl)
   intro e A w hA hC hp hup K hk
   have hM:=hC.2 (hup 19 (by kernel_rfl))
   replace hC:=hC.1
   replace hk:Next (regOf Tryz.f15 25) (fun w=>(fun w=>Below w3.heap.size w3 w∧w1.heap.size≤w.heap.size∧Blk w BM 25 cs∧Blk w BX 70 [.int .i64 xk,.int .i64 xn,.string xs,.slice (some ⟨b,of,none⟩) 3 xc]∧(∀ q,q<base→q≠BM→w.heap[q]? = w1.heap[q]?)) w∧(fun w=>w.ownsRow base 67 3 (.slice va l.length vc) l.length (rcE.cells l)) w) (rgrT BM BX base b of xk xn xs xc n0 n1 sd va vc cs l w3 w1) rgrD 6 e A w o.dst K:=hk.next fun v w h=>⟨h.1,fun _=>h.2⟩
   have hCM:=And.intro hC hM
   have x189:A.eval (.tmp 189) = .pointer (some ⟨b,of+1,none⟩):=op_tmp hA hp 189 5 (by kernel_rfl) (by kernel_rfl) (by kernel_rfl) (hz _ rfl)
   have hw:Region.wanted o (yielded (regOf Tryz.f15 25) A.tmps)=true:=wanted_free hg
   have e0:=(World.cell?_of_block (a:=⟨b,of+1,none⟩) (hC.1.block b hb3)).trans hc1
   refine step_pure (v:=.int .i64 n0) hk hCM hw ?_ rfl
   unfold execOp
   simp only [ho1]
   skip
   generalize A.eval=ρ at x189 ⊢
   simp [go_sem,x189,e0]
 | 7,_ =>
   have ho1:=opIs ho (p:=.fieldAddr 70 (.tmp 13) 3) (by kernel_rfl)
   have hg:=guardIs ho (p:=none) (by kernel_rfl)
   intro e A w hA hC hp hup K hk
   have hM:=hC.2 (hup 19 (by kernel_rfl))
   replace hC:=hC.1
   replace hk:Next (regOf Tryz.f15 25) (fun w=>(fun w=>Below w3.heap.size w3 w∧w1.heap.size≤w.heap.size∧Blk w BM 25 cs∧Blk w BX 70 [.int .i64 xk,.int .i64 xn,.string xs,.slice (some ⟨b,of,none⟩) 3 xc]∧(∀ q,q<base→q≠BM→w.heap[q]? = w1.heap[q]?)) w∧(fun w=>w.ownsRow base 67 3 (.slice va l.length vc) l.length (rcE.cells l)) w) (rgrT BM BX base b of xk xn xs xc n0 n1 sd va vc cs l w3 w1) rgrD 7 e A w o.dst K:=hk.next fun v w h=>⟨h.1,fun _=>h.2⟩
   have hCM:=And.intro hC hM
   have x13:A.eval (.tmp 13) = .pointer (some ⟨BX,0,none⟩):=filled_base hA (by kernel_rfl) b13
   have hw:Region.wanted o (yielded (regOf Tryz.f15 25) A.tmps)=true:=wanted_free hg
   refine step_pure (v:=.pointer (some ⟨BX,3,none⟩)) hk hCM hw ?_ rfl
   unfold execOp
   simp only [ho1]
   generalize A.eval=ρ at x13 ⊢
   simp [go_sem,x13]
 | 8,_ =>
   have ho1:=opIs ho (p:=.load 68 (.tmp 191)) (by kernel_rfl)
   have hg:=guardIs ho (p:=none) (by kernel_rfl)
   intro e A w hA hC hp hup K hk
   have hM:=hC.2 (hup 19 (by kernel_rfl))
   replace hC:=hC.1
   replace hk:Next (regOf Tryz.f15 25) (fun w=>(fun w=>Below w3.heap.size w3 w∧w1.heap.size≤w.heap.size∧Blk w BM 25 cs∧Blk w BX 70 [.int .i64 xk,.int .i64 xn,.string xs,.slice (some ⟨b,of,none⟩) 3 xc]∧(∀ q,q<base→q≠BM→w.heap[q]? = w1.heap[q]?)) w∧(fun w=>w.ownsRow base 67 3 (.slice va l.length vc) l.length (rcE.cells l)) w) (rgrT BM BX base b of xk xn xs xc n0 n1 sd va vc cs l w3 w1) rgrD 8 e A w o.dst K:=hk.next fun v w h=>⟨h.1,fun _=>h.2⟩
   have hCM:=And.intro hC hM
   have x191:A.eval (.tmp 191) = .pointer (some ⟨BX,3,none⟩):=op_tmp hA hp 191 7 (by kernel_rfl) (by kernel_rfl) (by kernel_rfl) (hz _ rfl)
   have hw:Region.wanted o (yielded (regOf Tryz.f15 25) A.tmps)=true:=wanted_free hg
   have e1:=Blk.cell (j:=3) hC.2.2.2.1 rfl
   refine step_pure (v:=.slice (some ⟨b,of,none⟩) 3 xc) hk hCM hw ?_ rfl
   unfold execOp
   simp only [ho1]
   skip
   generalize A.eval=ρ at x191 ⊢
   simp [go_sem,x191,e1]
 | 9,_ =>
   have ho1:=opIs ho (p:=.indexAddr 68 (.tmp 192) (.const (.int .i64 1))) (by kernel_rfl)
   have hg:=guardIs ho (p:=none) (by kernel_rfl)
   intro e A w hA hC hp hup K hk
   have hM:=hC.2 (hup 19 (by kernel_rfl))
   replace hC:=hC.1
   replace hk:Next (regOf Tryz.f15 25) (fun w=>(fun w=>Below w3.heap.size w3 w∧w1.heap.size≤w.heap.size∧Blk w BM 25 cs∧Blk w BX 70 [.int .i64 xk,.int .i64 xn,.string xs,.slice (some ⟨b,of,none⟩) 3 xc]∧(∀ q,q<base→q≠BM→w.heap[q]? = w1.heap[q]?)) w∧(fun w=>w.ownsRow base 67 3 (.slice va l.length vc) l.length (rcE.cells l)) w) (rgrT BM BX base b of xk xn xs xc n0 n1 sd va vc cs l w3 w1) rgrD 9 e A w o.dst K:=hk.next fun v w h=>⟨h.1,fun _=>h.2⟩
   have hCM:=And.intro hC hM
   have x192:A.eval (.tmp 192) = .slice (some ⟨b,of,none⟩) 3 xc:=op_tmp hA hp 192 8 (by kernel_rfl) (by kernel_rfl) (by kernel_rfl) (hz _ rfl)
   have hw:Region.wanted o (yielded (regOf Tryz.f15 25) A.tmps)=true:=wanted_free hg
   refine step_pure (v:=.pointer (some ⟨b,of+4,none⟩)) hk hCM hw ?_ rfl
   unfold execOp
   simp only [ho1]
   have xc:∀ v,A.eval (.const v)=v:=fun _=>rfl
   generalize A.eval=ρ at x192 xc ⊢
   simp [go_sem,x192,xc]
 | 10,_ =>
   have ho1:=opIs ho (p:=.fieldAddr 70 (.tmp 193) 1) (by kernel_rfl)
   have hg:=guardIs ho (p:=none) (by kernel_rfl)
   intro e A w hA hC hp hup K hk
   have hM:=hC.2 (hup 19 (by kernel_rfl))
   replace hC:=hC.1
   replace hk:Next (regOf Tryz.f15 25) (fun w=>(fun w=>Below w3.heap.size w3 w∧w1.heap.size≤w.heap.size∧Blk w BM 25 cs∧Blk w BX 70 [.int .i64 xk,.int .i64 xn,.string xs,.slice (some ⟨b,of,none⟩) 3 xc]∧(∀ q,q<base→q≠BM→w.heap[q]? = w1.heap[q]?)) w∧(fun w=>w.ownsRow base 67 3 (.slice va l.length vc) l.length (rcE.cells l)) w) (rgrT BM BX base b of xk xn xs xc n0 n1 sd va vc cs l w3 w1) rgrD 10 e A w o.dst K:=hk.next fun v w h=>⟨h.1,fun _=>h.2⟩
   have hCM:=And.intro hC hM
   have x193:A.eval (.tmp 193) = .pointer (some ⟨b,of+4,none⟩):=op_tmp hA hp 193 9 (by kernel_rfl) (by kernel_rfl) (by kernel_rfl) (hz _ rfl)
   have hw:Region.wanted o (yielded (regOf Tryz.f15 25) A.tmps)=true:=wanted_free hg
   refine step_pure (v:=.pointer (some ⟨b,of+5,none⟩)) hk hCM hw ?_ rfl
   unfold execOp
   simp only [ho1]
   skip
   generalize A.eval=ρ at x193 ⊢
   simp [go_sem,x193]
 | 11,_ =>
   have ho1:=opIs ho (p:=.load 2 (.tmp 194)) (by kernel_rfl)
   have hg:=guardIs ho (p:=none) (by kernel_rfl)
   intro e A w hA hC hp hup K hk
   have hM:=hC.2 (hup 19 (by kernel_rfl))
   replace hC:=hC.1
   replace hk:Next (regOf Tryz.f15 25) (fun w=>(fun w=>Below w3.heap.size w3 w∧w1.heap.size≤w.heap.size∧Blk w BM 25 cs∧Blk w BX 70 [.int .i64 xk,.int .i64 xn,.string xs,.slice (some ⟨b,of,none⟩) 3 xc]∧(∀ q,q<base→q≠BM→w.heap[q]? = w1.heap[q]?)) w∧(fun w=>w.ownsRow base 67 3 (.slice va l.length vc) l.length (rcE.cells l)) w) (rgrT BM BX base b of xk xn xs xc n0 n1 sd va vc cs l w3 w1) rgrD 11 e A w o.dst K:=hk.next fun v w h=>⟨h.1,fun _=>h.2⟩
   have hCM:=And.intro hC hM
   have x194:A.eval (.tmp 194) = .pointer (some ⟨b,of+5,none⟩):=op_tmp hA hp 194 10 (by kernel_rfl) (by kernel_rfl) (by kernel_rfl) (hz _ rfl)
   have hw:Region.wanted o (yielded (regOf Tryz.f15 25) A.tmps)=true:=wanted_free hg
   have e0:=(World.cell?_of_block (a:=⟨b,of+5,none⟩) (hC.1.block b hb3)).trans hc5
   refine step_pure (v:=.int .i64 n1) hk hCM hw ?_ rfl
   unfold execOp
   simp only [ho1]
   skip
   generalize A.eval=ρ at x194 ⊢
   simp [go_sem,x194,e0]
 | 12,_ =>
   have ho1:=opIs ho (p:=.fieldAddr 70 (.tmp 13) 3) (by kernel_rfl)
   have hg:=guardIs ho (p:=none) (by kernel_rfl)
   intro e A w hA hC hp hup K hk
   have hM:=hC.2 (hup 19 (by kernel_rfl))
   replace hC:=hC.1
   replace hk:Next (regOf Tryz.f15 25) (fun w=>(fun w=>Below w3.heap.size w3 w∧w1.heap.size≤w.heap.size∧Blk w BM 25 cs∧Blk w BX 70 [.int .i64 xk,.int .i64 xn,.string xs,.slice (some ⟨b,of,none⟩) 3 xc]∧(∀ q,q<base→q≠BM→w.heap[q]? = w1.heap[q]?)) w∧(fun w=>w.ownsRow base 67 3 (.slice va l.length vc) l.length (rcE.cells l)) w) (rgrT BM BX base b of xk xn xs xc n0 n1 sd va vc cs l w3 w1) rgrD 12 e A w o.dst K:=hk.next fun v w h=>⟨h.1,fun _=>h.2⟩
   have hCM:=And.intro hC hM
   have x13:A.eval (.tmp 13) = .pointer (some ⟨BX,0,none⟩):=filled_base hA (by kernel_rfl) b13
   have hw:Region.wanted o (yielded (regOf Tryz.f15 25) A.tmps)=true:=wanted_free hg
   refine step_pure (v:=.pointer (some ⟨BX,3,none⟩)) hk hCM hw ?_ rfl
   unfold execOp
   simp only [ho1]
   generalize A.eval=ρ at x13 ⊢
   simp [go_sem,x13]
 | 13,_ =>
   have ho1:=opIs ho (p:=.load 68 (.tmp 196)) (by kernel_rfl)
   have hg:=guardIs ho (p:=none) (by kernel_rfl)
   intro e A w hA hC hp hup K hk
   have hM:=hC.2 (hup 19 (by kernel_rfl))
   replace hC:=hC.1
   replace hk:Next (regOf Tryz.f15 25) (fun w=>(fun w=>Below w3.heap.size w3 w∧w1.heap.size≤w.heap.size∧Blk w BM 25 cs∧Blk w BX 70 [.int .i64 xk,.int .i64 xn,.string xs,.slice (some ⟨b,of,none⟩) 3 xc]∧(∀ q,q<base→q≠BM→w.heap[q]? = w1.heap[q]?)) w∧(fun w=>w.ownsRow base 67 3 (.slice va l.length vc) l.length (rcE.cells l)) w) (rgrT BM BX base b of xk xn xs xc n0 n1 sd va vc cs l w3 w1) rgrD 13 e A w o.dst K:=hk.next fun v w h=>⟨h.1,fun _=>h.2⟩
   have hCM:=And.intro hC hM
   have x196:A.eval (.tmp 196) = .pointer (some ⟨BX,3,none⟩):=op_tmp hA hp 196 12 (by kernel_rfl) (by kernel_rfl) (by kernel_rfl) (hz _ rfl)
   have hw:Region.wanted o (yielded (regOf Tryz.f15 25) A.tmps)=true:=wanted_free hg
   have e1:=Blk.cell (j:=3) hC.2.2.2.1 rfl
   refine step_pure (v:=.slice (some ⟨b,of,none⟩) 3 xc) hk hCM hw ?_ rfl
   unfold execOp
   simp only [ho1]
   skip
   generalize A.eval=ρ at x196 ⊢
   simp [go_sem,x196,e1]
 | 14,_ =>
   have ho1:=opIs ho (p:=.indexAddr 68 (.tmp 197) (.const (.int .i64 2))) (by kernel_rfl)
   have hg:=guardIs ho (p:=none) (by kernel_rfl)
   intro e A w hA hC hp hup K hk
   have hM:=hC.2 (hup 19 (by kernel_rfl))
   replace hC:=hC.1
   replace hk:Next (regOf Tryz.f15 25) (fun w=>(fun w=>Below w3.heap.size w3 w∧w1.heap.size≤w.heap.size∧Blk w BM 25 cs∧Blk w BX 70 [.int .i64 xk,.int .i64 xn,.string xs,.slice (some ⟨b,of,none⟩) 3 xc]∧(∀ q,q<base→q≠BM→w.heap[q]? = w1.heap[q]?)) w∧(fun w=>w.ownsRow base 67 3 (.slice va l.length vc) l.length (rcE.cells l)) w) (rgrT BM BX base b of xk xn xs xc n0 n1 sd va vc cs l w3 w1) rgrD 14 e A w o.dst K:=hk.next fun v w h=>⟨h.1,fun _=>h.2⟩
   have hCM:=And.intro hC hM
   have x197:A.eval (.tmp 197) = .slice (some ⟨b,of,none⟩) 3 xc:=op_tmp hA hp 197 13 (by kernel_rfl) (by kernel_rfl) (by kernel_rfl) (hz _ rfl)
   have hw:Region.wanted o (yielded (regOf Tryz.f15 25) A.tmps)=true:=wanted_free hg
   refine step_pure (v:=.pointer (some ⟨b,of+8,none⟩)) hk hCM hw ?_ rfl
   unfold execOp
   simp only [ho1]
   have xc:∀ v,A.eval (.const v)=v:=fun _=>rfl
   generalize A.eval=ρ at x197 xc ⊢
   simp [go_sem,x197,xc]
 | 15,_ =>
   have ho1:=opIs ho (p:=.fieldAddr 70 (.tmp 198) 2) (by kernel_rfl)
   have hg:=guardIs ho (p:=none) (by kernel_rfl)
   intro e A w hA hC hp hup K hk
   have hM:=hC.2 (hup 19 (by kernel_rfl))
   replace hC:=hC.1
   replace hk:Next (regOf Tryz.f15 25) (fun w=>(fun w=>Below w3.heap.size w3 w∧w1.heap.size≤w.heap.size∧Blk w BM 25 cs∧Blk w BX 70 [.int .i64 xk,.int .i64 xn,.string xs,.slice (some ⟨b,of,none⟩) 3 xc]∧(∀ q,q<base→q≠BM→w.heap[q]? = w1.heap[q]?)) w∧(fun w=>w.ownsRow base 67 3 (.slice va l.length vc) l.length (rcE.cells l)) w) (rgrT BM BX base b of xk xn xs xc n0 n1 sd va vc cs l w3 w1) rgrD 15 e A w o.dst K:=hk.next fun v w h=>⟨h.1,fun _=>h.2⟩
   have hCM:=And.intro hC hM
   have x198:A.eval (.tmp 198) = .pointer (some ⟨b,of+8,none⟩):=op_tmp hA hp 198 14 (by kernel_rfl) (by kernel_rfl) (by kernel_rfl) (hz _ rfl)
   have hw:Region.wanted o (yielded (regOf Tryz.f15 25) A.tmps)=true:=wanted_free hg
   refine step_pure (v:=.pointer (some ⟨b,of+10,none⟩)) hk hCM hw ?_ rfl
   unfold execOp
   simp only [ho1]
   skip
   generalize A.eval=ρ at x198 ⊢
   simp [go_sem,x198]
 | 16,_ =>
   have ho1:=opIs ho (p:=.load 9 (.tmp 199)) (by kernel_rfl)
   have hg:=guardIs ho (p:=none) (by kernel_rfl)
   intro e A w hA hC hp hup K hk
   have hM:=hC.2 (hup 19 (by kernel_rfl))
   replace hC:=hC.1
   replace hk:Next (regOf Tryz.f15 25) (fun w=>(fun w=>Below w3.heap.size w3 w∧w1.heap.size≤w.heap.size∧Blk w BM 25 cs∧Blk w BX 70 [.int .i64 xk,.int .i64 xn,.string xs,.slice (some ⟨b,of,none⟩) 3 xc]∧(∀ q,q<base→q≠BM→w.heap[q]? = w1.heap[q]?)) w∧(fun w=>w.ownsRow base 67 3 (.slice va l.length vc) l.length (rcE.cells l)) w) (rgrT BM BX base b of xk xn xs xc n0 n1 sd va vc cs l w3 w1) rgrD 16 e A w o.dst K:=hk.next fun v w h=>⟨h.1,fun _=>h.2⟩
   have hCM:=And.intro hC hM
   have x199:A.eval (.tmp 199) = .pointer (some ⟨b,of+10,none⟩):=op_tmp hA hp 199 15 (by kernel_rfl) (by kernel_rfl) (by kernel_rfl) (hz _ rfl)
   have hw:Region.wanted o (yielded (regOf Tryz.f15 25) A.tmps)=true:=wanted_free hg
   have e0:=(World.cell?_of_block (a:=⟨b,of+10,none⟩) (hC.1.block b hb3)).trans hc10
   refine step_pure (v:=.string sd) hk hCM hw ?_ rfl
   unfold execOp
   simp only [ho1]
   skip
   generalize A.eval=ρ at x199 ⊢
   simp [go_sem,x199,e0]
 | 17,_ =>
   have ho1:=opIs ho (p:=.build 67 #[(0,(.tmp 190)),(1,(.tmp 195)),(2,(.tmp 200))]) (by kernel_rfl)
   have hg:=guardIs ho (p:=none) (by kernel_rfl)
   intro e A w hA hC hp hup K hk
   have hM:=hC.2 (hup 19 (by kernel_rfl))
   replace hC:=hC.1
   replace hk:Next (regOf Tryz.f15 25) (fun w=>(fun w=>Below w3.heap.size w3 w∧w1.heap.size≤w.heap.size∧Blk w BM 25 cs∧Blk w BX 70 [.int .i64 xk,.int .i64 xn,.string xs,.slice (some ⟨b,of,none⟩) 3 xc]∧(∀ q,q<base→q≠BM→w.heap[q]? = w1.heap[q]?)) w∧(fun w=>w.ownsRow base 67 3 (.slice va l.length vc) l.length (rcE.cells l)) w) (rgrT BM BX base b of xk xn xs xc n0 n1 sd va vc cs l w3 w1) rgrD 17 e A w o.dst K:=hk.next fun v w h=>⟨h.1,fun _=>h.2⟩
   have hCM:=And.intro hC hM
   have x190:A.eval (.tmp 190) = .int .i64 n0:=op_tmp hA hp 190 6 (by kernel_rfl) (by kernel_rfl) (by kernel_rfl) (hz _ rfl)
   have x195:A.eval (.tmp 195) = .int .i64 n1:=op_tmp hA hp 195 11 (by kernel_rfl) (by kernel_rfl) (by kernel_rfl) (hz _ rfl)
   have x200:A.eval (.tmp 200) = .string sd:=op_tmp hA hp 200 16 (by kernel_rfl) (by kernel_rfl) (by kernel_rfl) (hz _ rfl)
   have hw:Region.wanted o (yielded (regOf Tryz.f15 25) A.tmps)=true:=wanted_free hg
   refine step_pure (v:=.agg #[.int .i64 n0,.int .i64 n1,.string sd]) hk hCM hw ?_ rfl
   unfold execOp
   simp only [ho1]
   skip
   generalize A.eval=ρ at x190 x195 x200 ⊢
   simp [go_sem,x190,x195,x200]
 | 18,_ =>
   have ho1:=opIs ho (p:=.buildSlice 22 1 #[(0,(.tmp 201))]) (by kernel_rfl)
   have hg:=guardIs ho (p:=none) (by kernel_rfl)
   intro e A w hA hC hp hup K hk
   have hM:=hC.2 (hup 19 (by kernel_rfl))
   replace hC:=hC.1
   replace hk:Next (regOf Tryz.f15 25) (fun w=>(fun w=>Below w3.heap.size w3 w∧w1.heap.size≤w.heap.size∧Blk w BM 25 cs∧Blk w BX 70 [.int .i64 xk,.int .i64 xn,.string xs,.slice (some ⟨b,of,none⟩) 3 xc]∧(∀ q,q<base→q≠BM→w.heap[q]? = w1.heap[q]?)) w∧(fun w=>w.ownsRow base 67 3 (.slice va l.length vc) l.length (rcE.cells l)) w) (rgrT BM BX base b of xk xn xs xc n0 n1 sd va vc cs l w3 w1) rgrD 18 e A w o.dst K:=hk.next fun v w h=>⟨h.1,fun _=>h.2⟩
   have hCM:=And.intro hC hM
   have x201:A.eval (.tmp 201) = .agg #[.int .i64 n0,.int .i64 n1,.string sd]:=op_tmp hA hp 201 17 (by kernel_rfl) (by kernel_rfl) (by kernel_rfl) (hz _ rfl)
   have hw:Region.wanted o (yielded (regOf Tryz.f15 25) A.tmps)=true:=wanted_free hg
   refine step_value (v:=.slice (some ⟨w.heap.size,0,none⟩) 1 1) (w':=w.alloc (.cells #[.int .i64 n0,.int .i64 n1,.string sd] 67)) hk hw ?_ ?_ ?_ ?_
   ·unfold execOp
    simp only [ho1]
    generalize A.eval=ρ at x201 ⊢
    simp [go_sem,x201]
   ·exact⟨w.heap.size,rfl,hC.2.1,heap_alloc_new w _⟩
   ·exact⟨⟨hC.1.alloc hC.1.size _,by have:=hC.2.1; simp; omega,hC.2.2.1.alloc _,hC.2.2.2.1.alloc _,fun q h1 h2=>(heap_alloc_old w _ (by have:=hC.2.1; omega)).trans (hC.2.2.2.2 q h1 h2)⟩,own_under hM ((Below.refl _ w).alloc (Nat.le_refl _) _)⟩
   ·intro j u _ _ _ _ h
    exact rgr_keep BM BX base b of xk xn xs xc n0 n1 sd va vc cs l w3 w1 j u w _ ((Below.refl _ w).alloc (Nat.le_refl _) _) h
 | 19,_ =>
   have ho1:=opIs ho (p:=.call { callee:=(.builtin .append),args:=#[(.tmp 185),(.tmp 202)],argTypes:=#[22,22] }) (by kernel_rfl)
   have hg:=guardIs ho (p:=none) (by kernel_rfl)
   intro e A w hA hC hp hup K hk
   have hM:=hC.2 (hup 19 (by kernel_rfl))
   have x185:A.eval (.tmp 185) = .slice va l.length vc:=op_tmp hA hp 185 1 (by kernel_rfl) (by kernel_rfl) (by kernel_rfl) (hz _ rfl)
   have x202:=op_tmp hA hp 202 18 (by kernel_rfl) (by kernel_rfl) (by kernel_rfl) (hz _ rfl)
   have hw:Region.wanted o (yielded (regOf Tryz.f15 25) A.tmps)=true:=wanted_free hg
   obtain⟨c,x202,hc0',h3⟩:=x202
   have hle:=hC.1.2.1
   obtain⟨i0,hi0,hz0,hz1,hz2⟩:=infoR
   obtain⟨a3,c3,w',hr,ho,hg⟩:=rowApp i0 hi0 hz0 hz1 hz2 rfl (by decide) hM c [.int .i64 n0,.int .i64 n1,.string sd] _ 22 o.type hV h3 rfl (by intro u hu; simp at hu; rcases hu with rfl | rfl | rfl <;> rfl) hn (by decide) (Nat.le_trans hbw hle)
   have hO:∀ p,p<base→some p≠(Value.slice va l.length vc).ownBlock:=fun p hp e=>by have:=(hM.lt _ e.symm).1; omega
   rw [if_pos hw]
   unfold Oper.wp
   rw [show (execOp A.eval o).run Tryz.prog w = .ok (.value (.slice a3 (l.length+1) c3)) w' by
    unfold execOp
    simp only [ho1,resolve,invoke,builtin,Sem.run_bind,Sem.run_pure,Result.andThen_ok,List.map_toArray,List.map_cons,List.map_nil,x185,x202,hr]]
   obtain⟨⟨h1,h2,h3',h4,h9⟩,-⟩:=hC
   refine hk _ _ ⟨a3,c3,rfl,by rw [rcE.cells_append]; exact ho⟩ ⟨⟨h1.grown hg h1.size (fun q e=>by have:=(hM.lt q e).1; omega),Nat.le_trans h2 hg.size,h3'.kept hg (hO _ (by omega)),h4.kept hg hXn,fun q q1 q2=>(hg.block q (by omega) (hO q q1)).trans (h9 q q1 q2)⟩,fun h=>by rw [Vals.set_same] at h; cases h⟩ ?_
   intro j u hj hji _ hd h
   match j,h with
   | 0,h=>exact h
   | 1,h=>exact h
   | 2,h=>exact h
   | 3,h=>exact h
   | 4,h=>exact h
   | 5,h=>exact h
   | 6,h=>exact h
   | 7,h=>exact h
   | 8,h=>exact h
   | 9,h=>exact h
   | 10,h=>exact h
   | 11,h=>exact h
   | 12,h=>exact h
   | 13,h=>exact h
   | 14,h=>exact h
   | 15,h=>exact h
   | 16,h=>exact h
   | 17,h=>exact h
   | 18,h=>exact absurd rfl (hd 19 (by rw [hsz]; decide) rfl).1
   | 19,h=>exact absurd rfl hji
   | 20,h=>exact h
   | _+21,h=>trivial
 | 20,_ =>
   have ho1:=opIs ho (p:=.fieldAddr 25 (.tmp 9) 7) (by kernel_rfl)
   have hg:=guardIs ho (p:=none) (by kernel_rfl)
   intro e A w hA hC hp hup K hk
   replace hk:Next (regOf Tryz.f15 25) (fun w=>(fun w=>Below w3.heap.size w3 w∧w1.heap.size≤w.heap.size∧Blk w BM 25 cs∧Blk w BX 70 [.int .i64 xk,.int .i64 xn,.string xs,.slice (some ⟨b,of,none⟩) 3 xc]∧(∀ q,q<base→q≠BM→w.heap[q]? = w1.heap[q]?)) w∧(e 19=none→(fun w=>w.ownsRow base 67 3 (.slice va l.length vc) l.length (rcE.cells l)) w)) (rgrT BM BX base b of xk xn xs xc n0 n1 sd va vc cs l w3 w1) rgrD 20 e A w o.dst K:=hk.next fun v w h=>⟨h.1,fun he=>h.2 (by rwa [Vals.set_other e v (by decide)] at he)⟩
   have hCM:=hC
   have x9:A.eval (.tmp 9) = .pointer (some ⟨BM,0,none⟩):=filled_base hA (by kernel_rfl) b9
   have hw:Region.wanted o (yielded (regOf Tryz.f15 25) A.tmps)=true:=wanted_free hg
   refine step_pure (v:=.pointer (some ⟨BM,7,none⟩)) hk hCM hw ?_ rfl
   unfold execOp
   simp only [ho1]
   generalize A.eval=ρ at x9 ⊢
   simp [go_sem,x9]
 | _+21,h=>exact absurd h (by omega)
def rgmT (BX b of:Nat) (vn:Int) (vt:ByteArray) (vc:Nat) (N0 N1 N2 N3 N4 N5 N6 N7:Int) (S8:ByteArray) (w1:World):Nat→Value→World→Prop
 | 0,v,w=>v = .pointer (some ⟨BX,3,none⟩)
 | 1,v,w=>v = .slice (some ⟨b,of,none⟩) 11 vc
 | 2,v,w=>v = .pointer (some ⟨b,of,none⟩)
 | 3,v,w=>v = .pointer (some ⟨b,of+1,none⟩)
 | 4,v,w=>v = .int .i64 N0
 | 5,v,w=>v = .pointer (some ⟨BX,3,none⟩)
 | 6,v,w=>v = .slice (some ⟨b,of,none⟩) 11 vc
 | 7,v,w=>v = .pointer (some ⟨b,of+4,none⟩)
 | 8,v,w=>v = .pointer (some ⟨b,of+5,none⟩)
 | 9,v,w=>v = .int .i64 N1
 | 10,v,w=>v = .pointer (some ⟨BX,3,none⟩)
 | 11,v,w=>v = .slice (some ⟨b,of,none⟩) 11 vc
 | 12,v,w=>v = .pointer (some ⟨b,of+8,none⟩)
 | 13,v,w=>v = .pointer (some ⟨b,of+9,none⟩)
 | 14,v,w=>v = .int .i64 N2
 | 15,v,w=>v = .pointer (some ⟨BX,3,none⟩)
 | 16,v,w=>v = .slice (some ⟨b,of,none⟩) 11 vc
 | 17,v,w=>v = .pointer (some ⟨b,of+12,none⟩)
 | 18,v,w=>v = .pointer (some ⟨b,of+13,none⟩)
 | 19,v,w=>v = .int .i64 N3
 | 20,v,w=>v = .pointer (some ⟨BX,3,none⟩)
 | 21,v,w=>v = .slice (some ⟨b,of,none⟩) 11 vc
 | 22,v,w=>v = .pointer (some ⟨b,of+16,none⟩)
 | 23,v,w=>v = .pointer (some ⟨b,of+17,none⟩)
 | 24,v,w=>v = .int .i64 N4
 | 25,v,w=>v = .bool (N4==1)
 | 26,v,w=>v = .pointer (some ⟨BX,3,none⟩)
 | 27,v,w=>v = .slice (some ⟨b,of,none⟩) 11 vc
 | 28,v,w=>v = .pointer (some ⟨b,of+20,none⟩)
 | 29,v,w=>v = .pointer (some ⟨b,of+21,none⟩)
 | 30,v,w=>v = .int .i64 N5
 | 31,v,w=>v = .pointer (some ⟨BX,3,none⟩)
 | 32,v,w=>v = .slice (some ⟨b,of,none⟩) 11 vc
 | 33,v,w=>v = .pointer (some ⟨b,of+24,none⟩)
 | 34,v,w=>v = .pointer (some ⟨b,of+25,none⟩)
 | 35,v,w=>v = .int .i64 N6
 | 36,v,w=>v = .pointer (some ⟨BX,3,none⟩)
 | 37,v,w=>v = .slice (some ⟨b,of,none⟩) 11 vc
 | 38,v,w=>v = .pointer (some ⟨b,of+28,none⟩)
 | 39,v,w=>v = .pointer (some ⟨b,of+29,none⟩)
 | 40,v,w=>v = .int .i64 N7
 | 41,v,w=>v = .pointer (some ⟨BX,3,none⟩)
 | 42,v,w=>v = .slice (some ⟨b,of,none⟩) 11 vc
 | 43,v,w=>v = .pointer (some ⟨b,of+32,none⟩)
 | 44,v,w=>v = .pointer (some ⟨b,of+34,none⟩)
 | 45,v,w=>v = .string S8
 | 46,v,w=>v = .agg #[.int .i64 N0,.int .i64 N1,.int .i64 N2,.int .i64 N3,.bool (N4==1),.int .i64 N5,.int .i64 N6,.slice none 0 0,.int .i64 N7,.string S8,.slice none 0 0]
 | 47,v,w=>∃ c,v = .pointer (some ⟨c,0,none⟩)∧w1.heap.size≤c∧w.heap[c]? = some (.cells #[.int .i64 0,.int .i64 0,.int .i64 0,.int .i64 0,.bool false,.int .i64 0,.int .i64 0,.slice none 0 0,.int .i64 0,.string ⟨#[]⟩,.slice none 0 0] 25 (0,0))
 | _,_,_=>True
def rgmD:Nat→List Nat
 | _=>[]
theorem rgm_keep (BX b of:Nat) (vn:Int) (vt:ByteArray) (vc:Nat) (N0 N1 N2 N3 N4 N5 N6 N7:Int) (S8:ByteArray) (w1:World):∀ (j:Nat) (u:Value) (w w':World),Below w.heap.size w w'→(rgmT BX b of vn vt vc N0 N1 N2 N3 N4 N5 N6 N7 S8 w1) j u w→(rgmT BX b of vn vt vc N0 N1 N2 N3 N4 N5 N6 N7 S8 w1) j u w'
 | 47,u,w,w',hb,h=>by obtain⟨c,rfl,h0,h1⟩:=h; exact⟨c,rfl,h0,(hb.block _ (lt_of_block h1)).trans h1⟩
 | 0,u,w,w',hb,h=>h
 | 1,u,w,w',hb,h=>h
 | 2,u,w,w',hb,h=>h
 | 3,u,w,w',hb,h=>h
 | 4,u,w,w',hb,h=>h
 | 5,u,w,w',hb,h=>h
 | 6,u,w,w',hb,h=>h
 | 7,u,w,w',hb,h=>h
 | 8,u,w,w',hb,h=>h
 | 9,u,w,w',hb,h=>h
 | 10,u,w,w',hb,h=>h
 | 11,u,w,w',hb,h=>h
 | 12,u,w,w',hb,h=>h
 | 13,u,w,w',hb,h=>h
 | 14,u,w,w',hb,h=>h
 | 15,u,w,w',hb,h=>h
 | 16,u,w,w',hb,h=>h
 | 17,u,w,w',hb,h=>h
 | 18,u,w,w',hb,h=>h
 | 19,u,w,w',hb,h=>h
 | 20,u,w,w',hb,h=>h
 | 21,u,w,w',hb,h=>h
 | 22,u,w,w',hb,h=>h
 | 23,u,w,w',hb,h=>h
 | 24,u,w,w',hb,h=>h
 | 25,u,w,w',hb,h=>h
 | 26,u,w,w',hb,h=>h
 | 27,u,w,w',hb,h=>h
 | 28,u,w,w',hb,h=>h
 | 29,u,w,w',hb,h=>h
 | 30,u,w,w',hb,h=>h
 | 31,u,w,w',hb,h=>h
 | 32,u,w,w',hb,h=>h
 | 33,u,w,w',hb,h=>h
 | 34,u,w,w',hb,h=>h
 | 35,u,w,w',hb,h=>h
 | 36,u,w,w',hb,h=>h
 | 37,u,w,w',hb,h=>h
 | 38,u,w,w',hb,h=>h
 | 39,u,w,w',hb,h=>h
 | 40,u,w,w',hb,h=>h
 | 41,u,w,w',hb,h=>h
 | 42,u,w,w',hb,h=>h
 | 43,u,w,w',hb,h=>h
 | 44,u,w,w',hb,h=>h
 | 45,u,w,w',hb,h=>h
 | 46,u,w,w',hb,h=>h
 | _+48,u,w,w',hb,h=>trivial
set_option maxHeartbeats 4000000 in
theorem rgm_steps (BX b of:Nat) (vn:Int) (vt:ByteArray) (vc:Nat) (N0 N1 N2 N3 N4 N5 N6 N7:Int) (S8:ByteArray) (w1:World) (hb3:b<w1.heap.size) (hBX:w1.heap[BX]? = some (.cells #[.int .i64 3,.int .i64 vn,.string vt,.slice (some ⟨b,of,none⟩) 11 vc] 70 (0,0))) (hc0:w1.cell? ⟨b,of+1,none⟩=some (.int .i64 N0)) (hc1:w1.cell? ⟨b,of+5,none⟩=some (.int .i64 N1)) (hc2:w1.cell? ⟨b,of+9,none⟩=some (.int .i64 N2)) (hc3:w1.cell? ⟨b,of+13,none⟩=some (.int .i64 N3)) (hc4:w1.cell? ⟨b,of+17,none⟩=some (.int .i64 N4)) (hc5:w1.cell? ⟨b,of+21,none⟩=some (.int .i64 N5)) (hc6:w1.cell? ⟨b,of+25,none⟩=some (.int .i64 N6)) (hc7:w1.cell? ⟨b,of+29,none⟩=some (.int .i64 N7)) (hc8:w1.cell? ⟨b,of+34,none⟩=some (.string S8)) {a:Act}(hs:a.tmps.size=219) (b5:a.eval (.tmp 5) = .pointer (some ⟨BX,0,none⟩)):∀ i o,i<48→(regOf Tryz.f15 12)[i]? = some o→StepOk Tryz.prog (regOf Tryz.f15 12) a (fun w=>Below w1.heap.size w1 w) (rgmT BX b of vn vt vc N0 N1 N2 N3 N4 N5 N6 N7 S8 w1) rgmD i o:=by
 have hz:∀ t,Nat.blt t 219=true→Nat.blt t a.tmps.size=true:=fun t h=>by rw [hs]; exact h
 have hsz:(regOf Tryz.f15 12).size=49:=by kernel_rfl
 intro i o hii ho
 match i,hii with
 | 0,_ =>
   have ho1:=opIs ho (p:=.fieldAddr 70 (.tmp 5) 3) (by kernel_rfl)
   have hg:=guardIs ho (p:=none) (by kernel_rfl)
   intro e A w hA hC hp K hk
   have x5:A.eval (.tmp 5) = .pointer (some ⟨BX,0,none⟩):=filled_base hA (by kernel_rfl) b5
   have hw:Region.wanted o (yielded (regOf Tryz.f15 12) A.tmps)=true:=wanted_free hg
   refine step_pure (v:=.pointer (some ⟨BX,3,none⟩)) hk hC hw ?_ rfl
   unfold execOp
   simp only [ho1]
   generalize A.eval=ρ at x5 ⊢
   simp [go_sem,x5]
 | 1,_ =>
   have ho1:=opIs ho (p:=.load 68 (.tmp 71)) (by kernel_rfl)
   have hg:=guardIs ho (p:=none) (by kernel_rfl)
   intro e A w hA hC hp K hk
   have x71:A.eval (.tmp 71) = .pointer (some ⟨BX,3,none⟩):=op_tmp hA hp 71 0 (by kernel_rfl) (by kernel_rfl) (by kernel_rfl) (hz _ rfl)
   have hw:Region.wanted o (yielded (regOf Tryz.f15 12) A.tmps)=true:=wanted_free hg
   have e1:=Blk.cell (j:=3) ((hC.block BX (lt_of_block hBX)).trans hBX) rfl
   refine step_pure (v:=.slice (some ⟨b,of,none⟩) 11 vc) hk hC hw ?_ rfl
   unfold execOp
   simp only [ho1]
   skip
   generalize A.eval=ρ at x71 ⊢
   simp [go_sem,x71,e1]
 | 2,_ =>
   have ho1:=opIs ho (p:=.indexAddr 68 (.tmp 72) (.const (.int .i64 0))) (by kernel_rfl)
   have hg:=guardIs ho (p:=none) (by kernel_rfl)
   intro e A w hA hC hp K hk
   have x72:A.eval (.tmp 72) = .slice (some ⟨b,of,none⟩) 11 vc:=op_tmp hA hp 72 1 (by kernel_rfl) (by kernel_rfl) (by kernel_rfl) (hz _ rfl)
   have hw:Region.wanted o (yielded (regOf Tryz.f15 12) A.tmps)=true:=wanted_free hg
   refine step_pure (v:=.pointer (some ⟨b,of,none⟩)) hk hC hw ?_ rfl
   unfold execOp
   simp only [ho1]
   have xc:∀ v,A.eval (.const v)=v:=fun _=>rfl
   generalize A.eval=ρ at x72 xc ⊢
   simp [go_sem,x72,xc]
 | 3,_ =>
   have ho1:=opIs ho (p:=.fieldAddr 70 (.tmp 73) 1) (by kernel_rfl)
   have hg:=guardIs ho (p:=none) (by kernel_rfl)
   intro e A w hA hC hp K hk
   have x73:A.eval (.tmp 73) = .pointer (some ⟨b,of,none⟩):=op_tmp hA hp 73 2 (by kernel_rfl) (by kernel_rfl) (by kernel_rfl) (hz _ rfl)
   have hw:Region.wanted o (yielded (regOf Tryz.f15 12) A.tmps)=true:=wanted_free hg
   refine step_pure (v:=.pointer (some ⟨b,of+1,none⟩)) hk hC hw ?_ rfl
   unfold execOp
   simp only [ho1]
   generalize A.eval=ρ at x73 ⊢
   simp [go_sem,x73]
 | 4,_ =>
   have ho1:=opIs ho (p:=.load 2 (.tmp 74)) (by kernel_rfl)
   have hg:=guardIs ho (p:=none) (by kernel_rfl)
   intro e A w hA hC hp K hk
   have x74:A.eval (.tmp 74) = .pointer (some ⟨b,of+1,none⟩):=op_tmp hA hp 74 3 (by kernel_rfl) (by kernel_rfl) (by kernel_rfl) (hz _ rfl)
   have hw:Region.wanted o (yielded (regOf Tryz.f15 12) A.tmps)=true:=wanted_free hg
   have e0:=(World.cell?_of_block (a:=⟨b,of+1,none⟩) (hC.block b hb3)).trans hc0
   refine step_pure (v:=.int .i64 N0) hk hC hw ?_ rfl
   unfold execOp
   simp only [ho1]
   skip
   generalize A.eval=ρ at x74 ⊢
   simp [go_sem,x74,e0]
 | 5,_ =>
   have ho1:=opIs ho (p:=.fieldAddr 70 (.tmp 5) 3) (by kernel_rfl)
   have hg:=guardIs ho (p:=none) (by kernel_rfl)
   intro e A w hA hC hp K hk
   have x5:A.eval (.tmp 5) = .pointer (some ⟨BX,0,none⟩):=filled_base hA (by kernel_rfl) b5
   have hw:Region.wanted o (yielded (regOf Tryz.f15 12) A.tmps)=true:=wanted_free hg
   refine step_pure (v:=.pointer (some ⟨BX,3,none⟩)) hk hC hw ?_ rfl
   unfold execOp
   simp only [ho1]
   generalize A.eval=ρ at x5 ⊢
   simp [go_sem,x5]
 | 6,_ =>
   have ho1:=opIs ho (p:=.load 68 (.tmp 76)) (by kernel_rfl)
   have hg:=guardIs ho (p:=none) (by kernel_rfl)
   intro e A w hA hC hp K hk
   have x76:A.eval (.tmp 76) = .pointer (some ⟨BX,3,none⟩):=op_tmp hA hp 76 5 (by kernel_rfl) (by kernel_rfl) (by kernel_rfl) (hz _ rfl)
   have hw:Region.wanted o (yielded (regOf Tryz.f15 12) A.tmps)=true:=wanted_free hg
   have e1:=Blk.cell (j:=3) ((hC.block BX (lt_of_block hBX)).trans hBX) rfl
   refine step_pure (v:=.slice (some ⟨b,of,none⟩) 11 vc) hk hC hw ?_ rfl
   unfold execOp
   simp only [ho1]
   skip
   generalize A.eval=ρ at x76 ⊢
   simp [go_sem,x76,e1]
 | 7,_ =>
   have ho1:=opIs ho (p:=.indexAddr 68 (.tmp 77) (.const (.int .i64 1))) (by kernel_rfl)
   have hg:=guardIs ho (p:=none) (by kernel_rfl)
   intro e A w hA hC hp K hk
   have x77:A.eval (.tmp 77) = .slice (some ⟨b,of,none⟩) 11 vc:=op_tmp hA hp 77 6 (by kernel_rfl) (by kernel_rfl) (by kernel_rfl) (hz _ rfl)
   have hw:Region.wanted o (yielded (regOf Tryz.f15 12) A.tmps)=true:=wanted_free hg
   refine step_pure (v:=.pointer (some ⟨b,of+4,none⟩)) hk hC hw ?_ rfl
   unfold execOp
   simp only [ho1]
   have xc:∀ v,A.eval (.const v)=v:=fun _=>rfl
   generalize A.eval=ρ at x77 xc ⊢
   simp [go_sem,x77,xc]
 | 8,_ =>
   have ho1:=opIs ho (p:=.fieldAddr 70 (.tmp 78) 1) (by kernel_rfl)
   have hg:=guardIs ho (p:=none) (by kernel_rfl)
   intro e A w hA hC hp K hk
   have x78:A.eval (.tmp 78) = .pointer (some ⟨b,of+4,none⟩):=op_tmp hA hp 78 7 (by kernel_rfl) (by kernel_rfl) (by kernel_rfl) (hz _ rfl)
   have hw:Region.wanted o (yielded (regOf Tryz.f15 12) A.tmps)=true:=wanted_free hg
   refine step_pure (v:=.pointer (some ⟨b,of+5,none⟩)) hk hC hw ?_ rfl
   unfold execOp
   simp only [ho1]
   generalize A.eval=ρ at x78 ⊢
   simp [go_sem,x78]
 | 9,_ =>
   have ho1:=opIs ho (p:=.load 2 (.tmp 79)) (by kernel_rfl)
   have hg:=guardIs ho (p:=none) (by kernel_rfl)
   intro e A w hA hC hp K hk
   have x79:A.eval (.tmp 79) = .pointer (some ⟨b,of+5,none⟩):=op_tmp hA hp 79 8 (by kernel_rfl) (by kernel_rfl) (by kernel_rfl) (hz _ rfl)
   have hw:Region.wanted o (yielded (regOf Tryz.f15 12) A.tmps)=true:=wanted_free hg
   have e0:=(World.cell?_of_block (a:=⟨b,of+5,none⟩) (hC.block b hb3)).trans hc1
   refine step_pure (v:=.int .i64 N1) hk hC hw ?_ rfl
   unfold execOp
   simp only [ho1]
   skip
   generalize A.eval=ρ at x79 ⊢
   simp [go_sem,x79,e0]
 | 10,_ =>
   have ho1:=opIs ho (p:=.fieldAddr 70 (.tmp 5) 3) (by kernel_rfl)
   have hg:=guardIs ho (p:=none) (by kernel_rfl)
   intro e A w hA hC hp K hk
   have x5:A.eval (.tmp 5) = .pointer (some ⟨BX,0,none⟩):=filled_base hA (by kernel_rfl) b5
   have hw:Region.wanted o (yielded (regOf Tryz.f15 12) A.tmps)=true:=wanted_free hg
   refine step_pure (v:=.pointer (some ⟨BX,3,none⟩)) hk hC hw ?_ rfl
   unfold execOp
   simp only [ho1]
   generalize A.eval=ρ at x5 ⊢
   simp [go_sem,x5]
 | 11,_ =>
   have ho1:=opIs ho (p:=.load 68 (.tmp 81)) (by kernel_rfl)
   have hg:=guardIs ho (p:=none) (by kernel_rfl)
   intro e A w hA hC hp K hk
   have x81:A.eval (.tmp 81) = .pointer (some ⟨BX,3,none⟩):=op_tmp hA hp 81 10 (by kernel_rfl) (by kernel_rfl) (by kernel_rfl) (hz _ rfl)
   have hw:Region.wanted o (yielded (regOf Tryz.f15 12) A.tmps)=true:=wanted_free hg
   have e1:=Blk.cell (j:=3) ((hC.block BX (lt_of_block hBX)).trans hBX) rfl
   refine step_pure (v:=.slice (some ⟨b,of,none⟩) 11 vc) hk hC hw ?_ rfl
   unfold execOp
   simp only [ho1]
   skip
   generalize A.eval=ρ at x81 ⊢
   simp [go_sem,x81,e1]
 | 12,_ =>
   have ho1:=opIs ho (p:=.indexAddr 68 (.tmp 82) (.const (.int .i64 2))) (by kernel_rfl)
   have hg:=guardIs ho (p:=none) (by kernel_rfl)
   intro e A w hA hC hp K hk
   have x82:A.eval (.tmp 82) = .slice (some ⟨b,of,none⟩) 11 vc:=op_tmp hA hp 82 11 (by kernel_rfl) (by kernel_rfl) (by kernel_rfl) (hz _ rfl)
   have hw:Region.wanted o (yielded (regOf Tryz.f15 12) A.tmps)=true:=wanted_free hg
   refine step_pure (v:=.pointer (some ⟨b,of+8,none⟩)) hk hC hw ?_ rfl
   unfold execOp
   simp only [ho1]
   have xc:∀ v,A.eval (.const v)=v:=fun _=>rfl
   generalize A.eval=ρ at x82 xc ⊢
   simp [go_sem,x82,xc]
 | 13,_ =>
   have ho1:=opIs ho (p:=.fieldAddr 70 (.tmp 83) 1) (by kernel_rfl)
   have hg:=guardIs ho (p:=none) (by kernel_rfl)
   intro e A w hA hC hp K hk
   have x83:A.eval (.tmp 83) = .pointer (some ⟨b,of+8,none⟩):=op_tmp hA hp 83 12 (by kernel_rfl) (by kernel_rfl) (by kernel_rfl) (hz _ rfl)
   have hw:Region.wanted o (yielded (regOf Tryz.f15 12) A.tmps)=true:=wanted_free hg
   refine step_pure (v:=.pointer (some ⟨b,of+9,none⟩)) hk hC hw ?_ rfl
   unfold execOp
   simp only [ho1]
   generalize A.eval=ρ at x83 ⊢
   simp [go_sem,x83]
 | 14,_ =>
   have ho1:=opIs ho (p:=.load 2 (.tmp 84)) (by kernel_rfl)
   have hg:=guardIs ho (p:=none) (by kernel_rfl)
   intro e A w hA hC hp K hk
   have x84:A.eval (.tmp 84) = .pointer (some ⟨b,of+9,none⟩):=op_tmp hA hp 84 13 (by kernel_rfl) (by kernel_rfl) (by kernel_rfl) (hz _ rfl)
   have hw:Region.wanted o (yielded (regOf Tryz.f15 12) A.tmps)=true:=wanted_free hg
   have e0:=(World.cell?_of_block (a:=⟨b,of+9,none⟩) (hC.block b hb3)).trans hc2
   refine step_pure (v:=.int .i64 N2) hk hC hw ?_ rfl
   unfold execOp
   simp only [ho1]
   skip
   generalize A.eval=ρ at x84 ⊢
   simp [go_sem,x84,e0]
 | 15,_ =>
   have ho1:=opIs ho (p:=.fieldAddr 70 (.tmp 5) 3) (by kernel_rfl)
   have hg:=guardIs ho (p:=none) (by kernel_rfl)
   intro e A w hA hC hp K hk
   have x5:A.eval (.tmp 5) = .pointer (some ⟨BX,0,none⟩):=filled_base hA (by kernel_rfl) b5
   have hw:Region.wanted o (yielded (regOf Tryz.f15 12) A.tmps)=true:=wanted_free hg
   refine step_pure (v:=.pointer (some ⟨BX,3,none⟩)) hk hC hw ?_ rfl
   unfold execOp
   simp only [ho1]
   generalize A.eval=ρ at x5 ⊢
   simp [go_sem,x5]
 | 16,_ =>
   have ho1:=opIs ho (p:=.load 68 (.tmp 86)) (by kernel_rfl)
   have hg:=guardIs ho (p:=none) (by kernel_rfl)
   intro e A w hA hC hp K hk
   have x86:A.eval (.tmp 86) = .pointer (some ⟨BX,3,none⟩):=op_tmp hA hp 86 15 (by kernel_rfl) (by kernel_rfl) (by kernel_rfl) (hz _ rfl)
   have hw:Region.wanted o (yielded (regOf Tryz.f15 12) A.tmps)=true:=wanted_free hg
   have e1:=Blk.cell (j:=3) ((hC.block BX (lt_of_block hBX)).trans hBX) rfl
   refine step_pure (v:=.slice (some ⟨b,of,none⟩) 11 vc) hk hC hw ?_ rfl
   unfold execOp
   simp only [ho1]
   skip
   generalize A.eval=ρ at x86 ⊢
   simp [go_sem,x86,e1]
 | 17,_ =>
   have ho1:=opIs ho (p:=.indexAddr 68 (.tmp 87) (.const (.int .i64 3))) (by kernel_rfl)
   have hg:=guardIs ho (p:=none) (by kernel_rfl)
   intro e A w hA hC hp K hk
   have x87:A.eval (.tmp 87) = .slice (some ⟨b,of,none⟩) 11 vc:=op_tmp hA hp 87 16 (by kernel_rfl) (by kernel_rfl) (by kernel_rfl) (hz _ rfl)
   have hw:Region.wanted o (yielded (regOf Tryz.f15 12) A.tmps)=true:=wanted_free hg
   refine step_pure (v:=.pointer (some ⟨b,of+12,none⟩)) hk hC hw ?_ rfl
   unfold execOp
   simp only [ho1]
   have xc:∀ v,A.eval (.const v)=v:=fun _=>rfl
   generalize A.eval=ρ at x87 xc ⊢
   simp [go_sem,x87,xc]
 | 18,_ =>
   have ho1:=opIs ho (p:=.fieldAddr 70 (.tmp 88) 1) (by kernel_rfl)
   have hg:=guardIs ho (p:=none) (by kernel_rfl)
   intro e A w hA hC hp K hk
   have x88:A.eval (.tmp 88) = .pointer (some ⟨b,of+12,none⟩):=op_tmp hA hp 88 17 (by kernel_rfl) (by kernel_rfl) (by kernel_rfl) (hz _ rfl)
   have hw:Region.wanted o (yielded (regOf Tryz.f15 12) A.tmps)=true:=wanted_free hg
   refine step_pure (v:=.pointer (some ⟨b,of+13,none⟩)) hk hC hw ?_ rfl
   unfold execOp
   simp only [ho1]
   generalize A.eval=ρ at x88 ⊢
   simp [go_sem,x88]
 | 19,_ =>
   have ho1:=opIs ho (p:=.load 2 (.tmp 89)) (by kernel_rfl)
   have hg:=guardIs ho (p:=none) (by kernel_rfl)
   intro e A w hA hC hp K hk
   have x89:A.eval (.tmp 89) = .pointer (some ⟨b,of+13,none⟩):=op_tmp hA hp 89 18 (by kernel_rfl) (by kernel_rfl) (by kernel_rfl) (hz _ rfl)
   have hw:Region.wanted o (yielded (regOf Tryz.f15 12) A.tmps)=true:=wanted_free hg
   have e0:=(World.cell?_of_block (a:=⟨b,of+13,none⟩) (hC.block b hb3)).trans hc3
   refine step_pure (v:=.int .i64 N3) hk hC hw ?_ rfl
   unfold execOp
   simp only [ho1]
   skip
   generalize A.eval=ρ at x89 ⊢
   simp [go_sem,x89,e0]
 | 20,_ =>
   have ho1:=opIs ho (p:=.fieldAddr 70 (.tmp 5) 3) (by kernel_rfl)
   have hg:=guardIs ho (p:=none) (by kernel_rfl)
   intro e A w hA hC hp K hk
   have x5:A.eval (.tmp 5) = .pointer (some ⟨BX,0,none⟩):=filled_base hA (by kernel_rfl) b5
   have hw:Region.wanted o (yielded (regOf Tryz.f15 12) A.tmps)=true:=wanted_free hg
   refine step_pure (v:=.pointer (some ⟨BX,3,none⟩)) hk hC hw ?_ rfl
   unfold execOp
   simp only [ho1]
   generalize A.eval=ρ at x5 ⊢
   simp [go_sem,x5]
 | 21,_ =>
   have ho1:=opIs ho (p:=.load 68 (.tmp 91)) (by kernel_rfl)
   have hg:=guardIs ho (p:=none) (by kernel_rfl)
   intro e A w hA hC hp K hk
   have x91:A.eval (.tmp 91) = .pointer (some ⟨BX,3,none⟩):=op_tmp hA hp 91 20 (by kernel_rfl) (by kernel_rfl) (by kernel_rfl) (hz _ rfl)
   have hw:Region.wanted o (yielded (regOf Tryz.f15 12) A.tmps)=true:=wanted_free hg
   have e1:=Blk.cell (j:=3) ((hC.block BX (lt_of_block hBX)).trans hBX) rfl
   refine step_pure (v:=.slice (some ⟨b,of,none⟩) 11 vc) hk hC hw ?_ rfl
   unfold execOp
   simp only [ho1]
   skip
   generalize A.eval=ρ at x91 ⊢
   simp [go_sem,x91,e1]
 | 22,_ =>
   have ho1:=opIs ho (p:=.indexAddr 68 (.tmp 92) (.const (.int .i64 4))) (by kernel_rfl)
   have hg:=guardIs ho (p:=none) (by kernel_rfl)
   intro e A w hA hC hp K hk
   have x92:A.eval (.tmp 92) = .slice (some ⟨b,of,none⟩) 11 vc:=op_tmp hA hp 92 21 (by kernel_rfl) (by kernel_rfl) (by kernel_rfl) (hz _ rfl)
   have hw:Region.wanted o (yielded (regOf Tryz.f15 12) A.tmps)=true:=wanted_free hg
   refine step_pure (v:=.pointer (some ⟨b,of+16,none⟩)) hk hC hw ?_ rfl
   unfold execOp
   simp only [ho1]
   have xc:∀ v,A.eval (.const v)=v:=fun _=>rfl
   generalize A.eval=ρ at x92 xc ⊢
   simp [go_sem,x92,xc]
 | 23,_ =>
   have ho1:=opIs ho (p:=.fieldAddr 70 (.tmp 93) 1) (by kernel_rfl)
   have hg:=guardIs ho (p:=none) (by kernel_rfl)
   intro e A w hA hC hp K hk
   have x93:A.eval (.tmp 93) = .pointer (some ⟨b,of+16,none⟩):=op_tmp hA hp 93 22 (by kernel_rfl) (by kernel_rfl) (by kernel_rfl) (hz _ rfl)
   have hw:Region.wanted o (yielded (regOf Tryz.f15 12) A.tmps)=true:=wanted_free hg
   refine step_pure (v:=.pointer (some ⟨b,of+17,none⟩)) hk hC hw ?_ rfl
   unfold execOp
   simp only [ho1]
   generalize A.eval=ρ at x93 ⊢
   simp [go_sem,x93]
 | 24,_ =>
   have ho1:=opIs ho (p:=.load 2 (.tmp 94)) (by kernel_rfl)
   have hg:=guardIs ho (p:=none) (by kernel_rfl)
   intro e A w hA hC hp K hk
   have x94:A.eval (.tmp 94) = .pointer (some ⟨b,of+17,none⟩):=op_tmp hA hp 94 23 (by kernel_rfl) (by kernel_rfl) (by kernel_rfl) (hz _ rfl)
   have hw:Region.wanted o (yielded (regOf Tryz.f15 12) A.tmps)=true:=wanted_free hg
   have e0:=(World.cell?_of_block (a:=⟨b,of+17,none⟩) (hC.block b hb3)).trans hc4
   refine step_pure (v:=.int .i64 N4) hk hC hw ?_ rfl
   unfold execOp
   simp only [ho1]
   skip
   generalize A.eval=ρ at x94 ⊢
   simp [go_sem,x94,e0]
 | 25,_ =>
   have ho1:=opIs ho (p:=.binOp .eql 2 (.tmp 95) (.const (.int .i64 1)) 2) (by kernel_rfl)
   have hg:=guardIs ho (p:=none) (by kernel_rfl)
   intro e A w hA hC hp K hk
   have x95:A.eval (.tmp 95) = .int .i64 N4:=op_tmp hA hp 95 24 (by kernel_rfl) (by kernel_rfl) (by kernel_rfl) (hz _ rfl)
   have hw:Region.wanted o (yielded (regOf Tryz.f15 12) A.tmps)=true:=wanted_free hg
   refine step_pure (v:=.bool (N4==1)) hk hC hw ?_ rfl
   unfold execOp
   simp only [ho1]
   have xc:∀ v,A.eval (.const v)=v:=fun _=>rfl
   generalize A.eval=ρ at x95 xc ⊢
   simp [go_sem,x95,xc]
 | 26,_ =>
   have ho1:=opIs ho (p:=.fieldAddr 70 (.tmp 5) 3) (by kernel_rfl)
   have hg:=guardIs ho (p:=none) (by kernel_rfl)
   intro e A w hA hC hp K hk
   have x5:A.eval (.tmp 5) = .pointer (some ⟨BX,0,none⟩):=filled_base hA (by kernel_rfl) b5
   have hw:Region.wanted o (yielded (regOf Tryz.f15 12) A.tmps)=true:=wanted_free hg
   refine step_pure (v:=.pointer (some ⟨BX,3,none⟩)) hk hC hw ?_ rfl
   unfold execOp
   simp only [ho1]
   generalize A.eval=ρ at x5 ⊢
   simp [go_sem,x5]
 | 27,_ =>
   have ho1:=opIs ho (p:=.load 68 (.tmp 97)) (by kernel_rfl)
   have hg:=guardIs ho (p:=none) (by kernel_rfl)
   intro e A w hA hC hp K hk
   have x97:A.eval (.tmp 97) = .pointer (some ⟨BX,3,none⟩):=op_tmp hA hp 97 26 (by kernel_rfl) (by kernel_rfl) (by kernel_rfl) (hz _ rfl)
   have hw:Region.wanted o (yielded (regOf Tryz.f15 12) A.tmps)=true:=wanted_free hg
   have e1:=Blk.cell (j:=3) ((hC.block BX (lt_of_block hBX)).trans hBX) rfl
   refine step_pure (v:=.slice (some ⟨b,of,none⟩) 11 vc) hk hC hw ?_ rfl
   unfold execOp
   simp only [ho1]
   skip
   generalize A.eval=ρ at x97 ⊢
   simp [go_sem,x97,e1]
 | 28,_ =>
   have ho1:=opIs ho (p:=.indexAddr 68 (.tmp 98) (.const (.int .i64 5))) (by kernel_rfl)
   have hg:=guardIs ho (p:=none) (by kernel_rfl)
   intro e A w hA hC hp K hk
   have x98:A.eval (.tmp 98) = .slice (some ⟨b,of,none⟩) 11 vc:=op_tmp hA hp 98 27 (by kernel_rfl) (by kernel_rfl) (by kernel_rfl) (hz _ rfl)
   have hw:Region.wanted o (yielded (regOf Tryz.f15 12) A.tmps)=true:=wanted_free hg
   refine step_pure (v:=.pointer (some ⟨b,of+20,none⟩)) hk hC hw ?_ rfl
   unfold execOp
   simp only [ho1]
   have xc:∀ v,A.eval (.const v)=v:=fun _=>rfl
   generalize A.eval=ρ at x98 xc ⊢
   simp [go_sem,x98,xc]
 | 29,_ =>
   have ho1:=opIs ho (p:=.fieldAddr 70 (.tmp 99) 1) (by kernel_rfl)
   have hg:=guardIs ho (p:=none) (by kernel_rfl)
   intro e A w hA hC hp K hk
   have x99:A.eval (.tmp 99) = .pointer (some ⟨b,of+20,none⟩):=op_tmp hA hp 99 28 (by kernel_rfl) (by kernel_rfl) (by kernel_rfl) (hz _ rfl)
   have hw:Region.wanted o (yielded (regOf Tryz.f15 12) A.tmps)=true:=wanted_free hg
   refine step_pure (v:=.pointer (some ⟨b,of+21,none⟩)) hk hC hw ?_ rfl
   unfold execOp
   simp only [ho1]
   generalize A.eval=ρ at x99 ⊢
   simp [go_sem,x99]
 | 30,_ =>
   have ho1:=opIs ho (p:=.load 2 (.tmp 100)) (by kernel_rfl)
   have hg:=guardIs ho (p:=none) (by kernel_rfl)
   intro e A w hA hC hp K hk
   have x100:A.eval (.tmp 100) = .pointer (some ⟨b,of+21,none⟩):=op_tmp hA hp 100 29 (by kernel_rfl) (by kernel_rfl) (by kernel_rfl) (hz _ rfl)
   have hw:Region.wanted o (yielded (regOf Tryz.f15 12) A.tmps)=true:=wanted_free hg
   have e0:=(World.cell?_of_block (a:=⟨b,of+21,none⟩) (hC.block b hb3)).trans hc5
   refine step_pure (v:=.int .i64 N5) hk hC hw ?_ rfl
   unfold execOp
   simp only [ho1]
   skip
   generalize A.eval=ρ at x100 ⊢
   simp [go_sem,x100,e0]
 | 31,_ =>
   have ho1:=opIs ho (p:=.fieldAddr 70 (.tmp 5) 3) (by kernel_rfl)
   have hg:=guardIs ho (p:=none) (by kernel_rfl)
   intro e A w hA hC hp K hk
   have x5:A.eval (.tmp 5) = .pointer (some ⟨BX,0,none⟩):=filled_base hA (by kernel_rfl) b5
   have hw:Region.wanted o (yielded (regOf Tryz.f15 12) A.tmps)=true:=wanted_free hg
   refine step_pure (v:=.pointer (some ⟨BX,3,none⟩)) hk hC hw ?_ rfl
   unfold execOp
   simp only [ho1]
   generalize A.eval=ρ at x5 ⊢
   simp [go_sem,x5]
 | 32,_ =>
   have ho1:=opIs ho (p:=.load 68 (.tmp 102)) (by kernel_rfl)
   have hg:=guardIs ho (p:=none) (by kernel_rfl)
   intro e A w hA hC hp K hk
   have x102:A.eval (.tmp 102) = .pointer (some ⟨BX,3,none⟩):=op_tmp hA hp 102 31 (by kernel_rfl) (by kernel_rfl) (by kernel_rfl) (hz _ rfl)
   have hw:Region.wanted o (yielded (regOf Tryz.f15 12) A.tmps)=true:=wanted_free hg
   have e1:=Blk.cell (j:=3) ((hC.block BX (lt_of_block hBX)).trans hBX) rfl
   refine step_pure (v:=.slice (some ⟨b,of,none⟩) 11 vc) hk hC hw ?_ rfl
   unfold execOp
   simp only [ho1]
   skip
   generalize A.eval=ρ at x102 ⊢
   simp [go_sem,x102,e1]
 | 33,_ =>
   have ho1:=opIs ho (p:=.indexAddr 68 (.tmp 103) (.const (.int .i64 6))) (by kernel_rfl)
   have hg:=guardIs ho (p:=none) (by kernel_rfl)
   intro e A w hA hC hp K hk
   have x103:A.eval (.tmp 103) = .slice (some ⟨b,of,none⟩) 11 vc:=op_tmp hA hp 103 32 (by kernel_rfl) (by kernel_rfl) (by kernel_rfl) (hz _ rfl)
   have hw:Region.wanted o (yielded (regOf Tryz.f15 12) A.tmps)=true:=wanted_free hg
   refine step_pure (v:=.pointer (some ⟨b,of+24,none⟩)) hk hC hw ?_ rfl
   unfold execOp
   simp only [ho1]
   have xc:∀ v,A.eval (.const v)=v:=fun _=>rfl
   generalize A.eval=ρ at x103 xc ⊢
   simp [go_sem,x103,xc]
 | 34,_ =>
   have ho1:=opIs ho (p:=.fieldAddr 70 (.tmp 104) 1) (by kernel_rfl)
   have hg:=guardIs ho (p:=none) (by kernel_rfl)
   intro e A w hA hC hp K hk
   have x104:A.eval (.tmp 104) = .pointer (some ⟨b,of+24,none⟩):=op_tmp hA hp 104 33 (by kernel_rfl) (by kernel_rfl) (by kernel_rfl) (hz _ rfl)
   have hw:Region.wanted o (yielded (regOf Tryz.f15 12) A.tmps)=true:=wanted_free hg
   refine step_pure (v:=.pointer (some ⟨b,of+25,none⟩)) hk hC hw ?_ rfl
   unfold execOp
   simp only [ho1]
   generalize A.eval=ρ at x104 ⊢
   simp [go_sem,x104]
 | 35,_ =>
   have ho1:=opIs ho (p:=.load 2 (.tmp 105)) (by kernel_rfl)
   have hg:=guardIs ho (p:=none) (by kernel_rfl)
   intro e A w hA hC hp K hk
   have x105:A.eval (.tmp 105) = .pointer (some ⟨b,of+25,none⟩):=op_tmp hA hp 105 34 (by kernel_rfl) (by kernel_rfl) (by kernel_rfl) (hz _ rfl)
   have hw:Region.wanted o (yielded (regOf Tryz.f15 12) A.tmps)=true:=wanted_free hg
   have e0:=(World.cell?_of_block (a:=⟨b,of+25,none⟩) (hC.block b hb3)).trans hc6
   refine step_pure (v:=.int .i64 N6) hk hC hw ?_ rfl
   unfold execOp
   simp only [ho1]
   skip
   generalize A.eval=ρ at x105 ⊢
   simp [go_sem,x105,e0]
 | 36,_ =>
   have ho1:=opIs ho (p:=.fieldAddr 70 (.tmp 5) 3) (by kernel_rfl)
   have hg:=guardIs ho (p:=none) (by kernel_rfl)
   intro e A w hA hC hp K hk
   have x5:A.eval (.tmp 5) = .pointer (some ⟨BX,0,none⟩):=filled_base hA (by kernel_rfl) b5
   have hw:Region.wanted o (yielded (regOf Tryz.f15 12) A.tmps)=true:=wanted_free hg
   refine step_pure (v:=.pointer (some ⟨BX,3,none⟩)) hk hC hw ?_ rfl
   unfold execOp
   simp only [ho1]
   generalize A.eval=ρ at x5 ⊢
   simp [go_sem,x5]
 | 37,_ =>
   have ho1:=opIs ho (p:=.load 68 (.tmp 107)) (by kernel_rfl)
   have hg:=guardIs ho (p:=none) (by kernel_rfl)
   intro e A w hA hC hp K hk
   have x107:A.eval (.tmp 107) = .pointer (some ⟨BX,3,none⟩):=op_tmp hA hp 107 36 (by kernel_rfl) (by kernel_rfl) (by kernel_rfl) (hz _ rfl)
   have hw:Region.wanted o (yielded (regOf Tryz.f15 12) A.tmps)=true:=wanted_free hg
   have e1:=Blk.cell (j:=3) ((hC.block BX (lt_of_block hBX)).trans hBX) rfl
   refine step_pure (v:=.slice (some ⟨b,of,none⟩) 11 vc) hk hC hw ?_ rfl
   unfold execOp
   simp only [ho1]
   skip
   generalize A.eval=ρ at x107 ⊢
   simp [go_sem,x107,e1]
 | 38,_ =>
   have ho1:=opIs ho (p:=.indexAddr 68 (.tmp 108) (.const (.int .i64 7))) (by kernel_rfl)
   have hg:=guardIs ho (p:=none) (by kernel_rfl)
   intro e A w hA hC hp K hk
   have x108:A.eval (.tmp 108) = .slice (some ⟨b,of,none⟩) 11 vc:=op_tmp hA hp 108 37 (by kernel_rfl) (by kernel_rfl) (by kernel_rfl) (hz _ rfl)
   have hw:Region.wanted o (yielded (regOf Tryz.f15 12) A.tmps)=true:=wanted_free hg
   refine step_pure (v:=.pointer (some ⟨b,of+28,none⟩)) hk hC hw ?_ rfl
   unfold execOp
   simp only [ho1]
   have xc:∀ v,A.eval (.const v)=v:=fun _=>rfl
   generalize A.eval=ρ at x108 xc ⊢
   simp [go_sem,x108,xc]
 | 39,_ =>
   have ho1:=opIs ho (p:=.fieldAddr 70 (.tmp 109) 1) (by kernel_rfl)
   have hg:=guardIs ho (p:=none) (by kernel_rfl)
   intro e A w hA hC hp K hk
   have x109:A.eval (.tmp 109) = .pointer (some ⟨b,of+28,none⟩):=op_tmp hA hp 109 38 (by kernel_rfl) (by kernel_rfl) (by kernel_rfl) (hz _ rfl)
   have hw:Region.wanted o (yielded (regOf Tryz.f15 12) A.tmps)=true:=wanted_free hg
   refine step_pure (v:=.pointer (some ⟨b,of+29,none⟩)) hk hC hw ?_ rfl
   unfold execOp
   simp only [ho1]
   generalize A.eval=ρ at x109 ⊢
   simp [go_sem,x109]
 | 40,_ =>
   have ho1:=opIs ho (p:=.load 2 (.tmp 110)) (by kernel_rfl)
   have hg:=guardIs ho (p:=none) (by kernel_rfl)
   intro e A w hA hC hp K hk
   have x110:A.eval (.tmp 110) = .pointer (some ⟨b,of+29,none⟩):=op_tmp hA hp 110 39 (by kernel_rfl) (by kernel_rfl) (by kernel_rfl) (hz _ rfl)
   have hw:Region.wanted o (yielded (regOf Tryz.f15 12) A.tmps)=true:=wanted_free hg
   have e0:=(World.cell?_of_block (a:=⟨b,of+29,none⟩) (hC.block b hb3)).trans hc7
   refine step_pure (v:=.int .i64 N7) hk hC hw ?_ rfl
   unfold execOp
   simp only [ho1]
   skip
   generalize A.eval=ρ at x110 ⊢
   simp [go_sem,x110,e0]
 | 41,_ =>
   have ho1:=opIs ho (p:=.fieldAddr 70 (.tmp 5) 3) (by kernel_rfl)
   have hg:=guardIs ho (p:=none) (by kernel_rfl)
   intro e A w hA hC hp K hk
   have x5:A.eval (.tmp 5) = .pointer (some ⟨BX,0,none⟩):=filled_base hA (by kernel_rfl) b5
   have hw:Region.wanted o (yielded (regOf Tryz.f15 12) A.tmps)=true:=wanted_free hg
   refine step_pure (v:=.pointer (some ⟨BX,3,none⟩)) hk hC hw ?_ rfl
   unfold execOp
   simp only [ho1]
   generalize A.eval=ρ at x5 ⊢
   simp [go_sem,x5]
 | 42,_ =>
   have ho1:=opIs ho (p:=.load 68 (.tmp 112)) (by kernel_rfl)
   have hg:=guardIs ho (p:=none) (by kernel_rfl)
   intro e A w hA hC hp K hk
   have x112:A.eval (.tmp 112) = .pointer (some ⟨BX,3,none⟩):=op_tmp hA hp 112 41 (by kernel_rfl) (by kernel_rfl) (by kernel_rfl) (hz _ rfl)
   have hw:Region.wanted o (yielded (regOf Tryz.f15 12) A.tmps)=true:=wanted_free hg
   have e1:=Blk.cell (j:=3) ((hC.block BX (lt_of_block hBX)).trans hBX) rfl
   refine step_pure (v:=.slice (some ⟨b,of,none⟩) 11 vc) hk hC hw ?_ rfl
   unfold execOp
   simp only [ho1]
   skip
   generalize A.eval=ρ at x112 ⊢
   simp [go_sem,x112,e1]
 | 43,_ =>
   have ho1:=opIs ho (p:=.indexAddr 68 (.tmp 113) (.const (.int .i64 8))) (by kernel_rfl)
   have hg:=guardIs ho (p:=none) (by kernel_rfl)
   intro e A w hA hC hp K hk
   have x113:A.eval (.tmp 113) = .slice (some ⟨b,of,none⟩) 11 vc:=op_tmp hA hp 113 42 (by kernel_rfl) (by kernel_rfl) (by kernel_rfl) (hz _ rfl)
   have hw:Region.wanted o (yielded (regOf Tryz.f15 12) A.tmps)=true:=wanted_free hg
   refine step_pure (v:=.pointer (some ⟨b,of+32,none⟩)) hk hC hw ?_ rfl
   unfold execOp
   simp only [ho1]
   have xc:∀ v,A.eval (.const v)=v:=fun _=>rfl
   generalize A.eval=ρ at x113 xc ⊢
   simp [go_sem,x113,xc]
 | 44,_ =>
   have ho1:=opIs ho (p:=.fieldAddr 70 (.tmp 114) 2) (by kernel_rfl)
   have hg:=guardIs ho (p:=none) (by kernel_rfl)
   intro e A w hA hC hp K hk
   have x114:A.eval (.tmp 114) = .pointer (some ⟨b,of+32,none⟩):=op_tmp hA hp 114 43 (by kernel_rfl) (by kernel_rfl) (by kernel_rfl) (hz _ rfl)
   have hw:Region.wanted o (yielded (regOf Tryz.f15 12) A.tmps)=true:=wanted_free hg
   refine step_pure (v:=.pointer (some ⟨b,of+34,none⟩)) hk hC hw ?_ rfl
   unfold execOp
   simp only [ho1]
   generalize A.eval=ρ at x114 ⊢
   simp [go_sem,x114]
 | 45,_ =>
   have ho1:=opIs ho (p:=.load 9 (.tmp 115)) (by kernel_rfl)
   have hg:=guardIs ho (p:=none) (by kernel_rfl)
   intro e A w hA hC hp K hk
   have x115:A.eval (.tmp 115) = .pointer (some ⟨b,of+34,none⟩):=op_tmp hA hp 115 44 (by kernel_rfl) (by kernel_rfl) (by kernel_rfl) (hz _ rfl)
   have hw:Region.wanted o (yielded (regOf Tryz.f15 12) A.tmps)=true:=wanted_free hg
   have e0:=(World.cell?_of_block (a:=⟨b,of+34,none⟩) (hC.block b hb3)).trans hc8
   refine step_pure (v:=.string S8) hk hC hw ?_ rfl
   unfold execOp
   simp only [ho1]
   skip
   generalize A.eval=ρ at x115 ⊢
   simp [go_sem,x115,e0]
 | 46,_ =>
   have ho1:=opIs ho (p:=.build 25 #[(0,(.tmp 75)),(1,(.tmp 80)),(2,(.tmp 85)),(3,(.tmp 90)),(4,(.tmp 96)),(5,(.tmp 101)),(6,(.tmp 106)),(8,(.tmp 111)),(9,(.tmp 116))]) (by kernel_rfl)
   have hg:=guardIs ho (p:=none) (by kernel_rfl)
   intro e A w hA hC hp K hk
   have x75:A.eval (.tmp 75) = .int .i64 N0:=op_tmp hA hp 75 4 (by kernel_rfl) (by kernel_rfl) (by kernel_rfl) (hz _ rfl)
   have x80:A.eval (.tmp 80) = .int .i64 N1:=op_tmp hA hp 80 9 (by kernel_rfl) (by kernel_rfl) (by kernel_rfl) (hz _ rfl)
   have x85:A.eval (.tmp 85) = .int .i64 N2:=op_tmp hA hp 85 14 (by kernel_rfl) (by kernel_rfl) (by kernel_rfl) (hz _ rfl)
   have x90:A.eval (.tmp 90) = .int .i64 N3:=op_tmp hA hp 90 19 (by kernel_rfl) (by kernel_rfl) (by kernel_rfl) (hz _ rfl)
   have x96:A.eval (.tmp 96) = .bool (N4==1):=op_tmp hA hp 96 25 (by kernel_rfl) (by kernel_rfl) (by kernel_rfl) (hz _ rfl)
   have x101:A.eval (.tmp 101) = .int .i64 N5:=op_tmp hA hp 101 30 (by kernel_rfl) (by kernel_rfl) (by kernel_rfl) (hz _ rfl)
   have x106:A.eval (.tmp 106) = .int .i64 N6:=op_tmp hA hp 106 35 (by kernel_rfl) (by kernel_rfl) (by kernel_rfl) (hz _ rfl)
   have x111:A.eval (.tmp 111) = .int .i64 N7:=op_tmp hA hp 111 40 (by kernel_rfl) (by kernel_rfl) (by kernel_rfl) (hz _ rfl)
   have x116:A.eval (.tmp 116) = .string S8:=op_tmp hA hp 116 45 (by kernel_rfl) (by kernel_rfl) (by kernel_rfl) (hz _ rfl)
   have hw:Region.wanted o (yielded (regOf Tryz.f15 12) A.tmps)=true:=wanted_free hg
   refine step_pure (v:=.agg #[.int .i64 N0,.int .i64 N1,.int .i64 N2,.int .i64 N3,.bool (N4==1),.int .i64 N5,.int .i64 N6,.slice none 0 0,.int .i64 N7,.string S8,.slice none 0 0]) hk hC hw ?_ rfl
   unfold execOp
   simp only [ho1]
   generalize A.eval=ρ at x75 x80 x85 x90 x96 x101 x106 x111 x116 ⊢
   simp [go_sem,x75,x80,x85,x90,x96,x101,x106,x111,x116]
 | 47,_ =>
   have ho1:=opIs ho (p:=.alloc 25) (by kernel_rfl)
   have hg:=guardIs ho (p:=none) (by kernel_rfl)
   intro e A w hA hC hp K hk
   have hw:Region.wanted o (yielded (regOf Tryz.f15 12) A.tmps)=true:=wanted_free hg
   refine step_value (v:=.pointer (some ⟨w.heap.size,0,none⟩)) (w':=w.alloc (.cells #[.int .i64 0,.int .i64 0,.int .i64 0,.int .i64 0,.bool false,.int .i64 0,.int .i64 0,.slice none 0 0,.int .i64 0,.string ⟨#[]⟩,.slice none 0 0] 25)) hk hw ?_ ?_ ?_ ?_
   ·unfold execOp
    simp only [ho1]
    simp [go_sem]
   ·exact⟨w.heap.size,rfl,hC.size,heap_alloc_new w _⟩
   ·exact hC.alloc hC.size _
   ·intro j u _ _ _ _ h
    exact rgm_keep BX b of vn vt vc N0 N1 N2 N3 N4 N5 N6 N7 S8 w1 j u w _ ((Below.refl _ w).alloc (Nat.le_refl _) _) h
 | _+48,h=>exact absurd h (by omega)
end Go.Proofs.YtlpgbmaoenncjaaGreatDoor

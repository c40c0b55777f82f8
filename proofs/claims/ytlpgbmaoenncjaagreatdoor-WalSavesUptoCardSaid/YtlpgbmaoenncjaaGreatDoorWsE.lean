/-
  The reference's Anew: the region that writes a whole.
-/
import Derived.Test.YtlpgbmaoenncjaaGreatDoorRegW
import Derived.Test.YtlpgbmaoenncjaaGreatDoorWsD
import Derived.Test.YtlpgbmaoenncjaaGreatDoorWsC
namespace Go.Proofs.YtlpgbmaoenncjaaGreatDoor
open Go.RowKit
set_option linter.unusedVariables false
set_option maxRecDepth 100000
def ranT (BD:Nat) (rm':Int) (a':Option Addr) (n':Nat) (c':Nat) (lf':Int) (dn':Bool) (BH:Nat) (tm:Int) (vo:Int) (ba:Int) (bt:Int) (ar:Option Addr) (nr:Nat) (cr:Nat) (sn:ByteArray) (av:Option Addr) (nv:Nat) (cv:Nat) (WB:ByteArray) (X:Dk × Int) (w1:World):Nat→Value→World→Prop
 | 0,v,w=>v = .agg #[.int .i64 rm',.slice a' n' c',.int .i64 lf',.bool dn']
 | 1,v,w=>v = .agg #[.int .i64 tm,.int .i64 vo,.int .i64 ba,.int .i64 bt,.slice ar nr cr,.string sn,.slice av nv cv]
 | 2,v,w=>v = .string WB
 | 3,v,w=>∃ a n c,v = .tuple #[Dk.val X.1 a n c,.int .i64 X.2]∧DkAt w a n c X.1
 | 4,v,w=>∃ a n c,v = .tuple #[Dk.val X.1 a n c,.int .i64 X.2]∧DkAt w a n c X.1
 | 5,v,w=>∃ a n c,v=Dk.val X.1 a n c∧DkAt w a n c X.1
 | 6,v,w=>v = .int .i64 X.2
 | 7,v,w=>True
 | 8,v,w=>True
 | _,_,_=>True
def ranD:Nat→List Nat
 | _=>[]
theorem ran_keep (BD:Nat) (rm':Int) (a':Option Addr) (n':Nat) (c':Nat) (lf':Int) (dn':Bool) (BH:Nat) (tm:Int) (vo:Int) (ba:Int) (bt:Int) (ar:Option Addr) (nr:Nat) (cr:Nat) (sn:ByteArray) (av:Option Addr) (nv:Nat) (cv:Nat) (WB:ByteArray) (X:Dk × Int) (w1:World):∀ (j:Nat) (u:Value) (w w':World),Below w.heap.size w w'→(ranT BD rm' a' n' c' lf' dn' BH tm vo ba bt ar nr cr sn av nv cv WB X w1) j u w→(ranT BD rm' a' n' c' lf' dn' BH tm vo ba bt ar nr cr sn av nv cv WB X w1) j u w'
 | 3,u,w,w',hb,h=>by obtain⟨a,n,c,rfl,h1⟩:=h; exact⟨a,n,c,rfl,h1.keep hb⟩
 | 4,u,w,w',hb,h=>by obtain⟨a,n,c,rfl,h1⟩:=h; exact⟨a,n,c,rfl,h1.keep hb⟩
 | 5,u,w,w',hb,h=>by obtain⟨a,n,c,rfl,h1⟩:=h; exact⟨a,n,c,rfl,h1.keep hb⟩
 | 7,u,w,w',hb,h=>trivial
 | 8,u,w,w',hb,h=>trivial
 | 0,u,w,w',hb,h=>h
 | 1,u,w,w',hb,h=>h
 | 2,u,w,w',hb,h=>h
 | 6,u,w,w',hb,h=>h
 | _+9,u,w,w',hb,h=>trivial
theorem ran_set (BD:Nat) (rm':Int) (a':Option Addr) (n':Nat) (c':Nat) (lf':Int) (dn':Bool) (BH:Nat) (tm:Int) (vo:Int) (ba:Int) (bt:Int) (ar:Option Addr) (nr:Nat) (cr:Nat) (sn:ByteArray) (av:Option Addr) (nv:Nat) (cv:Nat) (WB:ByteArray) (X:Dk × Int) (w1:World):∀ (j:Nat) (u:Value) (w w':World),(∀ a n c,DkAt w a n c X.1→DkAt w' a n c X.1)→(ranT BD rm' a' n' c' lf' dn' BH tm vo ba bt ar nr cr sn av nv cv WB X w1) j u w→(ranT BD rm' a' n' c' lf' dn' BH tm vo ba bt ar nr cr sn av nv cv WB X w1) j u w'
 | 3,u,w,w',hb,h=>by obtain⟨a,n,c,rfl,hd⟩:=h; exact⟨a,n,c,rfl,hb _ _ _ hd⟩
 | 4,u,w,w',hb,h=>by obtain⟨a,n,c,rfl,hd⟩:=h; exact⟨a,n,c,rfl,hb _ _ _ hd⟩
 | 5,u,w,w',hb,h=>by obtain⟨a,n,c,rfl,hd⟩:=h; exact⟨a,n,c,rfl,hb _ _ _ hd⟩
 | 0,u,w,w',hb,h=>h
 | 1,u,w,w',hb,h=>h
 | 2,u,w,w',hb,h=>h
 | 6,u,w,w',hb,h=>h
 | 7,u,w,w',hb,h=>h
 | 8,u,w,w',hb,h=>h
 | _+9,u,w,w',hb,h=>trivial
set_option maxHeartbeats 4000000 in
theorem ran_steps (BD:Nat) (rm':Int) (a':Option Addr) (n':Nat) (c':Nat) (lf':Int) (dn':Bool) (BH:Nat) (tm:Int) (vo:Int) (ba:Int) (bt:Int) (ar:Option Addr) (nr:Nat) (cr:Nat) (sn:ByteArray) (av:Option Addr) (nv:Nat) (cv:Nat) (WB:ByteArray) (X:Dk × Int) (w1:World) (hBD:BD<w1.heap.size) (hBD0:w1.cell? ⟨BD,0,none⟩=some (.int .i64 rm')) (hBD1:w1.cell? ⟨BD,1,none⟩=some (.slice a' n' c')) (hBD2:w1.cell? ⟨BD,2,none⟩=some (.int .i64 lf')) (hBD3:w1.cell? ⟨BD,3,none⟩=some (.bool dn')) (hBH:BH<w1.heap.size) (hBH0:w1.cell? ⟨BH,0,none⟩=some (.int .i64 tm)) (hBH1:w1.cell? ⟨BH,1,none⟩=some (.int .i64 vo)) (hBH2:w1.cell? ⟨BH,2,none⟩=some (.int .i64 ba)) (hBH3:w1.cell? ⟨BH,3,none⟩=some (.int .i64 bt)) (hBH4:w1.cell? ⟨BH,4,none⟩=some (.slice ar nr cr)) (hBH5:w1.cell? ⟨BH,5,none⟩=some (.string sn)) (hBH6:w1.cell? ⟨BH,6,none⟩=some (.slice av nv cv)) (hwh:∀ W,Below w1.heap.size w1 W→Calls Tryz.prog 110 #[.agg #[.int .i64 tm,.int .i64 vo,.int .i64 ba,.int .i64 bt,.slice ar nr cr,.string sn,.slice av nv cv]] W fun e w'=>e = .returned (.string WB)∧Below W.heap.size W w') (hcl:∀ W,Below w1.heap.size w1 W→Calls Tryz.prog 62 #[.agg #[.int .i64 rm',.slice a' n' c',.int .i64 lf',.bool dn'],(.int .i64 1),(.string ⟨#[108,111,103,46,110,101,119]⟩),.string WB] W (RetDk W X)) {a:Act}(hs:a.tmps.size=49) (b2:a.eval (.tmp 2) = .pointer (some ⟨BD,0,none⟩)) (b3:a.eval (.tmp 3) = .pointer (some ⟨BH,0,none⟩)):∀ i o,i<9→(regOf Tryz.f61 6)[i]? = some o→StepOkE Tryz.prog (regOf Tryz.f61 6) a (CBox w1 38 7 8 [.int .i64 0,.slice none 0 0,.int .i64 0,.bool false] (finDk X.1)) (ranT BD rm' a' n' c' lf' dn' BH tm vo ba bt ar nr cr sn av nv cv WB X w1) ranD i o:=by
 have hz:∀ t,Nat.blt t 49=true→Nat.blt t a.tmps.size=true:=fun t h=>by rw [hs]; exact h
 have hsz:(regOf Tryz.f61 6).size=10:=by kernel_rfl
 intro i o hii ho
 match i,hii with
 | 0,_ =>
   have ho1:=opIs ho (p:=.load 38 (.tmp 2)) (by kernel_rfl)
   have hg:=guardIs ho (p:=none) (by kernel_rfl)
   intro e A w hA hC hp hup K hk
   have hCB:=hC.1
   replace hk:Next (regOf Tryz.f61 6) (fun w'=>Below w.heap.size w w') (ranT BD rm' a' n' c' lf' dn' BH tm vo ba bt ar nr cr sn av nv cv WB X w1) ranD 0 e A w o.dst K:=hk.next fun v w' hb=>CBox.keep (finDk_keep X.1) hC hb (by decide) (by decide) v
   replace hC:=Below.refl w.heap.size w
   have x2:A.eval (.tmp 2) = .pointer (some ⟨BD,0,none⟩):=filled_base hA (by kernel_rfl) b2
   have hw:Region.wanted o (yielded (regOf Tryz.f61 6) A.tmps)=true:=wanted_free hg
   have e0:=(World.cell?_of_block (a:=⟨BD,0,none⟩) (hCB.block BD hBD)).trans hBD0
   have e1:=(World.cell?_of_block (a:=⟨BD,1,none⟩) (hCB.block BD hBD)).trans hBD1
   have e2:=(World.cell?_of_block (a:=⟨BD,2,none⟩) (hCB.block BD hBD)).trans hBD2
   have e3:=(World.cell?_of_block (a:=⟨BD,3,none⟩) (hCB.block BD hBD)).trans hBD3
   refine step_pure (v:=.agg #[.int .i64 rm',.slice a' n' c',.int .i64 lf',.bool dn']) hk hC hw ?_ rfl
   unfold execOp
   simp only [ho1]
   skip
   generalize A.eval=ρ at x2 ⊢
   simp [go_sem,x2,e0,e1,e2,e3]
 | 1,_ =>
   have ho1:=opIs ho (p:=.load 42 (.tmp 3)) (by kernel_rfl)
   have hg:=guardIs ho (p:=none) (by kernel_rfl)
   intro e A w hA hC hp hup K hk
   have hCB:=hC.1
   replace hk:Next (regOf Tryz.f61 6) (fun w'=>Below w.heap.size w w') (ranT BD rm' a' n' c' lf' dn' BH tm vo ba bt ar nr cr sn av nv cv WB X w1) ranD 1 e A w o.dst K:=hk.next fun v w' hb=>CBox.keep (finDk_keep X.1) hC hb (by decide) (by decide) v
   replace hC:=Below.refl w.heap.size w
   have x3:A.eval (.tmp 3) = .pointer (some ⟨BH,0,none⟩):=filled_base hA (by kernel_rfl) b3
   have hw:Region.wanted o (yielded (regOf Tryz.f61 6) A.tmps)=true:=wanted_free hg
   have e0:=(World.cell?_of_block (a:=⟨BH,0,none⟩) (hCB.block BH hBH)).trans hBH0
   have e1:=(World.cell?_of_block (a:=⟨BH,1,none⟩) (hCB.block BH hBH)).trans hBH1
   have e2:=(World.cell?_of_block (a:=⟨BH,2,none⟩) (hCB.block BH hBH)).trans hBH2
   have e3:=(World.cell?_of_block (a:=⟨BH,3,none⟩) (hCB.block BH hBH)).trans hBH3
   have e4:=(World.cell?_of_block (a:=⟨BH,4,none⟩) (hCB.block BH hBH)).trans hBH4
   have e5:=(World.cell?_of_block (a:=⟨BH,5,none⟩) (hCB.block BH hBH)).trans hBH5
   have e6:=(World.cell?_of_block (a:=⟨BH,6,none⟩) (hCB.block BH hBH)).trans hBH6
   refine step_pure (v:=.agg #[.int .i64 tm,.int .i64 vo,.int .i64 ba,.int .i64 bt,.slice ar nr cr,.string sn,.slice av nv cv]) hk hC hw ?_ rfl
   unfold execOp
   simp only [ho1]
   skip
   generalize A.eval=ρ at x3 ⊢
   simp [go_sem,x3,e0,e1,e2,e3,e4,e5,e6]
 | 2,_ =>
   have ho1:=opIs ho (p:=.call { callee:=(.value (.func 110)),args:=#[(.tmp 27)],argTypes:=#[42] }) (by kernel_rfl)
   have hg:=guardIs ho (p:=none) (by kernel_rfl)
   intro e A w hA hC hp hup K hk
   have hCB:=hC.1
   replace hk:Next (regOf Tryz.f61 6) (fun w'=>Below w.heap.size w w') (ranT BD rm' a' n' c' lf' dn' BH tm vo ba bt ar nr cr sn av nv cv WB X w1) ranD 2 e A w o.dst K:=hk.next fun v w' hb=>CBox.keep (finDk_keep X.1) hC hb (by decide) (by decide) v
   replace hC:=Below.refl w.heap.size w
   have x27:A.eval (.tmp 27) = .agg #[.int .i64 tm,.int .i64 vo,.int .i64 ba,.int .i64 bt,.slice ar nr cr,.string sn,.slice av nv cv]:=op_tmp hA hp 27 1 (by kernel_rfl) (by kernel_rfl) (by kernel_rfl) (hz _ rfl)
   have hw:Region.wanted o (yielded (regOf Tryz.f61 6) A.tmps)=true:=wanted_free hg
   refine step_call (f:=110) (args:=#[.agg #[.int .i64 tm,.int .i64 vo,.int .i64 ba,.int .i64 bt,.slice ar nr cr,.string sn,.slice av nv cv]]) hk hw ?_ ?_
   ·unfold execOp
    simp only [ho1]
    have xf:∀ f,A.eval (.func f) = .func (.func f) #[] #[]:=fun _=>rfl
    have xc:∀ v,A.eval (.const v)=v:=fun _=>rfl
    generalize A.eval=ρ at x27 xf xc ⊢
    simp [go_sem,xf,x27]
   ·refine (hwh w hCB).mono ?_
    rintro en' w' ⟨rfl,hb'⟩
    exact⟨_,rfl,rfl,hb',fun j u _ _ _ _ h=>ran_keep BD rm' a' n' c' lf' dn' BH tm vo ba bt ar nr cr sn av nv cv WB X w1 j u w _ hb' h⟩
 | 3,_ =>
   have ho1:=opIs ho (p:=.call { callee:=(.value (.func 62)),args:=#[(.tmp 26),(.const (.int .i64 1)),(.const (.string ⟨#[108,111,103,46,110,101,119]⟩)),(.tmp 28)],argTypes:=#[38,3,9,9] }) (by kernel_rfl)
   have hg:=guardIs ho (p:=none) (by kernel_rfl)
   intro e A w hA hC hp hup K hk
   have hCB:=hC.1
   replace hk:Next (regOf Tryz.f61 6) (fun w'=>Below w.heap.size w w') (ranT BD rm' a' n' c' lf' dn' BH tm vo ba bt ar nr cr sn av nv cv WB X w1) ranD 3 e A w o.dst K:=hk.next fun v w' hb=>CBox.keep (finDk_keep X.1) hC hb (by decide) (by decide) v
   replace hC:=Below.refl w.heap.size w
   have x26:A.eval (.tmp 26) = .agg #[.int .i64 rm',.slice a' n' c',.int .i64 lf',.bool dn']:=op_tmp hA hp 26 0 (by kernel_rfl) (by kernel_rfl) (by kernel_rfl) (hz _ rfl)
   have x28:A.eval (.tmp 28) = .string WB:=op_tmp hA hp 28 2 (by kernel_rfl) (by kernel_rfl) (by kernel_rfl) (hz _ rfl)
   have hw:Region.wanted o (yielded (regOf Tryz.f61 6) A.tmps)=true:=wanted_free hg
   refine step_call (f:=62) (args:=#[.agg #[.int .i64 rm',.slice a' n' c',.int .i64 lf',.bool dn'],(.int .i64 1),(.string ⟨#[108,111,103,46,110,101,119]⟩),.string WB]) hk hw ?_ ?_
   ·unfold execOp
    simp only [ho1]
    have xf:∀ f,A.eval (.func f) = .func (.func f) #[] #[]:=fun _=>rfl
    have xc:∀ v,A.eval (.const v)=v:=fun _=>rfl
    generalize A.eval=ρ at x26 x28 xf xc ⊢
    simp [go_sem,xf,xc,x26,x28]
   ·refine (hcl w hCB).mono ?_
    rintro en' w' ⟨a,n,c,rfl,hd,hb'⟩
    exact⟨_,rfl,⟨a,n,c,rfl,hd⟩,hb',fun j u _ _ _ _ h=>ran_keep BD rm' a' n' c' lf' dn' BH tm vo ba bt ar nr cr sn av nv cv WB X w1 j u w _ hb' h⟩
 | 4,_ =>
   have ho1:=opIs ho (p:=.move (.tmp 29)) (by kernel_rfl)
   have hg:=guardIs ho (p:=none) (by kernel_rfl)
   intro e A w hA hC hp hup K hk
   have hCB:=hC.1
   replace hk:Next (regOf Tryz.f61 6) (fun w'=>Below w.heap.size w w') (ranT BD rm' a' n' c' lf' dn' BH tm vo ba bt ar nr cr sn av nv cv WB X w1) ranD 4 e A w o.dst K:=hk.next fun v w' hb=>CBox.keep (finDk_keep X.1) hC hb (by decide) (by decide) v
   replace hC:=Below.refl w.heap.size w
   have x29:=op_tmp hA hp 29 3 (by kernel_rfl) (by kernel_rfl) (by kernel_rfl) (hz _ rfl)
   have hw:Region.wanted o (yielded (regOf Tryz.f61 6) A.tmps)=true:=wanted_free hg
   obtain⟨a,n,c,x29,hd⟩:=x29
   exact step_pure hk hC hw (run_move ho1 x29 w) ⟨a,n,c,rfl,hd⟩
 | 5,_ =>
   have ho1:=opIs ho (p:=.extract (.tmp 25) 0) (by kernel_rfl)
   have hg:=guardIs ho (p:=none) (by kernel_rfl)
   intro e A w hA hC hp hup K hk
   have hCB:=hC.1
   replace hk:Next (regOf Tryz.f61 6) (fun w'=>Below w.heap.size w w') (ranT BD rm' a' n' c' lf' dn' BH tm vo ba bt ar nr cr sn av nv cv WB X w1) ranD 5 e A w o.dst K:=hk.next fun v w' hb=>CBox.keep (finDk_keep X.1) hC hb (by decide) (by decide) v
   replace hC:=Below.refl w.heap.size w
   have x25:=op_tmp hA hp 25 4 (by kernel_rfl) (by kernel_rfl) (by kernel_rfl) (hz _ rfl)
   have hw:Region.wanted o (yielded (regOf Tryz.f61 6) A.tmps)=true:=wanted_free hg
   obtain⟨a,n,c,x25,hd⟩:=x25
   exact step_pure hk hC hw (run_extract ho1 x25 rfl w) ⟨a,n,c,rfl,hd⟩
 | 6,_ =>
   have ho1:=opIs ho (p:=.extract (.tmp 25) 1) (by kernel_rfl)
   have hg:=guardIs ho (p:=none) (by kernel_rfl)
   intro e A w hA hC hp hup K hk
   have hCB:=hC.1
   replace hk:Next (regOf Tryz.f61 6) (fun w'=>Below w.heap.size w w') (ranT BD rm' a' n' c' lf' dn' BH tm vo ba bt ar nr cr sn av nv cv WB X w1) ranD 6 e A w o.dst K:=hk.next fun v w' hb=>CBox.keep (finDk_keep X.1) hC hb (by decide) (by decide) v
   replace hC:=Below.refl w.heap.size w
   have x25:=op_tmp hA hp 25 4 (by kernel_rfl) (by kernel_rfl) (by kernel_rfl) (hz _ rfl)
   have hw:Region.wanted o (yielded (regOf Tryz.f61 6) A.tmps)=true:=wanted_free hg
   obtain⟨a,n,c,x25,hd⟩:=x25
   exact step_pure hk hC hw (run_extract ho1 x25 rfl w) rfl
 | 7,_ =>
   have ho1:=opIs ho (p:=.alloc 38) (by kernel_rfl)
   have hg:=guardIs ho (p:=none) (by kernel_rfl)
   intro e A w hA hC hp hup K hk
   have hw:Region.wanted o (yielded (regOf Tryz.f61 6) A.tmps)=true:=wanted_free hg
   refine step_valueE (v:=.pointer (some ⟨w.heap.size,0,none⟩)) (w':=w.alloc (.cells #[.int .i64 0,.slice none 0 0,.int .i64 0,.bool false] 38)) hk hw ?_ trivial ?_ ?_
   ·unfold execOp
    simp only [ho1]
    simp [go_sem]
   ·exact CBox.made hC (by decide) (hup 8 (by kernel_rfl))
   ·intro j u _ _ _ _ h
    exact ran_keep BD rm' a' n' c' lf' dn' BH tm vo ba bt ar nr cr sn av nv cv WB X w1 j u w _ ((Below.refl _ w).alloc (Nat.le_refl _) _) h
 | 8,_ =>
   have ho1:=opIs ho (p:=.store 38 (.tmp 8) (.tmp 30)) (by kernel_rfl)
   have hg:=guardIs ho (p:=none) (by kernel_rfl)
   intro e A w hA hC hp hup K hk
   have x8:=op_tmp hA hp 8 7 (by kernel_rfl) (by kernel_rfl) (by kernel_rfl) (hz _ rfl)
   have x30:=op_tmp hA hp 30 5 (by kernel_rfl) (by kernel_rfl) (by kernel_rfl) (hz _ rfl)
   have hw:Region.wanted o (yielded (regOf Tryz.f61 6) A.tmps)=true:=wanted_free hg
   obtain⟨a,n,c,xv,hd⟩:=x30
   obtain⟨u,hu,-⟩:=hp 7 (by kernel_rfl)
   obtain⟨p,rfl,hp1,hzb,-⟩:=hC.2 u hu
   have xa:A.eval (.tmp 8) = .pointer (some ⟨p,0,none⟩):=filled_tmp hA (by kernel_rfl) hu (by simpa [Nat.blt_eq] using hz 8 rfl)
   have hzero:Four w p 38 (.int .i64 0) (.slice none 0 0) (.int .i64 0) (.bool false):=hzb (hup 8 (by kernel_rfl))
   have z0:=hzero.c0; have z1:=hzero.c1; have z2:=hzero.c2; have z3:=hzero.c3
   have f0:=hzero.free 0; have f1:=hzero.free 1; have f2:=hzero.free 2; have f3:=hzero.free 3
   refine step_skipE (w':=((((w.setCell ⟨p,0,none⟩ (.int .i64 X.1.room)).setCell ⟨p,1,none⟩ (.slice a n c)).setCell ⟨p,2,none⟩ (.int .i64 X.1.left)).setCell ⟨p,3,none⟩ (.bool X.1.down))) hk hw ?_ trivial ?_ ?_
   ·clear x8
    unfold execOp
    simp only [ho1]
    unfold Dk.val at xv
    generalize A.eval=ρ at xv xa ⊢
    simp [go_sem,xv,xa,z0,z1,z2,z3,f0,f1,f2,f3]
   ·exact hC.storeDk (by decide) hu hp1 hzero hd
   ·intro j u _ _ _ _ h
    exact ran_set BD rm' a' n' c' lf' dn' BH tm vo ba bt ar nr cr sn av nv cv WB X w1 j u w _ (fun a n c hd=>hd.setD (e:=Dk.zero) (a1:=none) (n1:=0) (c1:=0) hzero _ _ _ _) h
 | _+9,h=>exact absurd h (by omega)
structure AnSt (w wx:World) (cs:List Value) (d:Dk) (a:Option Addr) (n c:Nat):Prop where
 box:DkBox wx w.heap.size d a n c
 hd:Blk wx (w.heap.size+1) 42 cs
 out:DkBox wx (w.heap.size+1+1) Dk.zero none 0 0
 at_:DkAt wx a n c d
 bel:Below w.heap.size w wx
theorem AnSt.keep {w wx w':World}{cs:List Value}{d:Dk}{a:Option Addr}{n c:Nat}(h:AnSt w wx cs d a n c) (hb:Below wx.heap.size wx w'):AnSt w w' cs d a n c :=
 ⟨h.box.keep hb,h.hd.keep hb,h.out.keep hb,h.at_.keep hb,below_then h.bel hb h.bel.size⟩
theorem an_start (w:World) (cs:List Value) {d:Dk}{a:Option Addr}{n c:Nat}(h:DkAt w a n c d) :
 AnSt w (((w.alloc (.cells #[.int .i64 d.room,.slice a n c,.int .i64 d.left,.bool d.down] 38)).alloc (.cells cs.toArray 42)).alloc (.cells #[.int .i64 0,.slice none 0 0,.int .i64 0,.bool false] 38)) cs d a n c:=by
 have hb:Below w.heap.size w (((w.alloc (.cells #[.int .i64 d.room,.slice a n c,.int .i64 d.left,.bool d.down] 38)).alloc (.cells cs.toArray 42)).alloc (.cells #[.int .i64 0,.slice none 0 0,.int .i64 0,.bool false] 38)) :=
  (((Below.refl _ w).alloc (Nat.le_refl _) _).alloc (by simp) _).alloc (by simp; omega) _
 refine⟨?_,?_,?_,h.keep hb,hb⟩
 ·exact ((DkBox.new w d a n c).keep ((Below.refl _ _).alloc (Nat.le_refl _) _)).keep ((Below.refl _ _).alloc (Nat.le_refl _) _)
 ·have:=heap_alloc_new (w.alloc (.cells #[.int .i64 d.room,.slice a n c,.int .i64 d.left,.bool d.down] 38)) (.cells cs.toArray 42)
  rw [World.size_alloc] at this
  exact Blk.alloc this _
 ·have:=Four.new ((w.alloc (.cells #[.int .i64 d.room,.slice a n c,.int .i64 d.left,.bool d.down] 38)).alloc (.cells cs.toArray 42)) 38 (.int .i64 0) (.slice none 0 0) (.int .i64 0) (.bool false)
  rw [World.size_alloc,World.size_alloc] at this
  exact this
theorem AnSt.setBox {w wx:World}{cs:List Value}{d:Dk}{a:Option Addr}{n c:Nat}(h:AnSt w wx cs d a n c) {e:Dk}{a':Option Addr}{n' c':Nat}(he:DkAt wx a' n' c' e) :
 AnSt w ((((wx.setCell ⟨w.heap.size,0,none⟩ (.int .i64 e.room)).setCell ⟨w.heap.size,1,none⟩ (.slice a' n' c')).setCell ⟨w.heap.size,2,none⟩ (.int .i64 e.left)).setCell ⟨w.heap.size,3,none⟩ (.bool e.down)) cs e a' n' c' :=
 ⟨h.box.setF e a' n' c',((grown_four wx w.heap.size (.int .i64 e.room) (.slice a' n' c') (.int .i64 e.left) (.bool e.down)).block _ (lt_of_block h.hd) (fun q=>by have:=Option.some.inj q; omega)).trans h.hd,Four.sets h.out (by omega) _ _ _ _,he.setD h.box _ _ _ _,four_sets h.bel (Nat.le_refl _) _ _ _ _⟩
theorem AnSt.ret {w wx:World}{cs:List Value}{d:Dk}{a:Option Addr}{n c:Nat}(h:AnSt w wx cs d a n c) {e:Dk}{a':Option Addr}{n' c':Nat}(he:DkAt wx a' n' c' e) (x:Int) :
 RetDk w (e,x) (.returned (.tuple #[.agg #[.int .i64 e.room,.slice a' n' c',.int .i64 e.left,.bool e.down],.int .i64 x])) ((((wx.setCell ⟨w.heap.size+1+1,0,none⟩ (.int .i64 e.room)).setCell ⟨w.heap.size+1+1,1,none⟩ (.slice a' n' c')).setCell ⟨w.heap.size+1+1,2,none⟩ (.int .i64 e.left)).setCell ⟨w.heap.size+1+1,3,none⟩ (.bool e.down)) :=
 RetDk.store he h.bel h.out (by omega)
theorem stepsS_one {d:Dk}{s:Stp}{L:List Stp}{X:Dk × Int}(hX:callS d s.what s.nm s.more=X):stepsS d (s :: L)=if X.2=0 then stepsS X.1 L else X:=by rw [stepsS,hX]
theorem stepsS_last {d:Dk}{s:Stp}{X:Dk × Int}(hX:callS d s.what s.nm s.more=X):stepsS d [s]=X:=by
 rw [stepsS_one hX]
 split
 ·rename_i h; rw [stepsS]; exact Prod.ext rfl h.symm
 ·rfl
set_option maxHeartbeats 3000000 in
theorem ranew_any (a:Option Addr) (n c:Nat) (d:Dk) (h:Hd) (ar:Option Addr) (nr cr:Nat) (av:Option Addr) (nv cv:Nat) (w:World) (hd:DkAt w a n c d) (H:HdAt w h ar nr cr av nv cv) (htab:Lib.TabIs Tryz.prog w "internal/strconv.uint64pow10" .u64 Lib.pow10Tab) (hr:rightH h=true)
 (HC:Hid (∀ (a:Option Addr) (n c:Nat) (d:Dk) (what:Int) (nm more:ByteArray) (W:World),DkAt W a n c d→1≤what∧what≤4→nm.size≤maxLen→more.size≤2097152→Calls Tryz.prog 111 #[d.val a n c,.int .i64 what,.string nm,.string more] W (RetDk W (callK d what nm more)))) :
 Calls Tryz.prog 61 #[d.val a n c,h.val ar nr cr av nv cv] w (RetDk w (anewS d h)):=by
 have HT:=Lib.hid (Lib.tabBelow_of_tabIs htab)
 have HAT:Hid (∀ W,Below w.heap.size w W→Calls Tryz.prog 59 #[d.val a n c,.string newN] W fun e w'=>e = .returned (.int .i64 (atL d.files newN))∧Below W.heap.size W w') :=
  Lib.hid fun W hb=>refAt_any a n c d newN W (hd.keep hb) _ (Lib.hid rfl)
 have HWH:Hid (∀ W,Below w.heap.size w W→Calls Tryz.prog 110 #[h.val ar nr cr av nv cv] W fun e w'=>e = .returned (.string (wholeB (putH h).1))∧Below W.heap.size W w') :=
  Lib.hid fun W hb=>rwhole_any h ar nr cr av nv cv W (H.keep hb) (HT.out _ hb) hr
 have HCL:Hid (∀ (a:Option Addr) (n c:Nat) (d:Dk) (what:Int) (nm more:ByteArray) (W:World),DkAt W a n c d→1≤what∧what≤4→nm.size≤maxLen→more.size≤2097152→Calls Tryz.prog 62 #[d.val a n c,.int .i64 what,.string nm,.string more] W (RetDk W (callS d what nm more))) :=
  Lib.hid fun a n c d what nm more W h1 h2 h3 h4=>rcall_any a n c d what nm more W h1 h2 h3 h4 HC
 have hz:(wholeB (putH h).1).size≤2097152:=Nat.le_trans (wholeB_size (putH_size hr)) (by decide)
 obtain⟨r,hr0⟩:∃ r,r=anewS d h:=⟨_,rfl⟩
 rw [← hr0]
 unfold anewS threeS at hr0
 generalize wholeB (putH h).1=WB at *
 obtain⟨k,hk⟩:∃ k,k=atL d.files newN:=⟨_,rfl⟩
 rw [← hk] at hr0 HAT
 have HZ:=Lib.hid hz
 have HR:=Lib.hid hr0
 have hst:=an_start w [.int .i64 h.term,.int .i64 h.vote,.int .i64 h.base,.int .i64 h.bt,.slice ar nr cr,.string h.snap,.slice av nv cv] hd
 have HS:=Lib.hid hst
 clear hd H htab hr hz hr0 hk HC hst
 obtain⟨tm,vo,ba,bt,rs,sn,vs⟩:=h
 unfold Hd.val Dk.val newN at *
 dsimp only at *
 obtain⟨rm,fl,lf,dn⟩:=d
 dsimp only at *
 go_enter Tryz.func61,Tryz.ntmps61
 go_wp2_with fail
 refine (HAT.out _ HS.out.bel).mono ?_
 rintro e w1 ⟨rfl,hb1⟩
 have HS1:=Lib.hid (HS.out.keep hb1)
 clear HAT HS hb1
 go_upto_if 14 with fail
 go_cut [5] (fun v wx=>v = .int .i64 0∧∃ (dd:Dk) (a':Option Addr) (n' c':Nat),Hid (AnSt w wx [.int .i64 tm,.int .i64 vo,.int .i64 ba,.int .i64 bt,.slice ar nr cr,.string sn,.slice av nv cv] dd a' n' c')∧Hid (r=stepsS dd [⟨1,⟨#[108,111,103,46,110,101,119]⟩,WB⟩,⟨2,⟨#[108,111,103,46,110,101,119]⟩,noB⟩,⟨3,⟨#[108,111,103,46,110,101,119]⟩,logN⟩]))
 case first =>
  by_cases hk:k<0
  ·have hrr:r=_:=HR.out
   rw [if_pos hk] at hrr
   clear HR
   go_wp2_with fail
   go_meet
   exact⟨rfl,_,_,_,_,HS1,Lib.hid hrr⟩
  ·have hrr:r=_:=HR.out
   rw [if_neg hk] at hrr
   have hk0:0≤k:=by omega
   have hcall:=Lib.hid (HCL.out a n c ⟨rm,fl,lf,dn⟩ 4 newN noB w1 HS1.out.at_ (by decide) (by decide) (by decide))
   obtain⟨X,hX⟩:∃ X,X=callS ⟨rm,fl,lf,dn⟩ 4 newN noB:=⟨_,rfl⟩
   have hst:=stepsS_one (s:=⟨4,newN,noB⟩) (L:=[⟨1,⟨#[108,111,103,46,110,101,119]⟩,WB⟩,⟨2,⟨#[108,111,103,46,110,101,119]⟩,noB⟩,⟨3,⟨#[108,111,103,46,110,101,119]⟩,logN⟩]) hX.symm
   have HX:=Lib.hid (hrr.trans hst)
   rw [← hX] at hcall
   clear HR hrr hst hX hk
   have q0:=HS1.out.box.c0; have q1:=HS1.out.box.c1; have q2:=HS1.out.box.c2; have q3:=HS1.out.box.c3
   unfold newN noB at hcall
   dsimp only at q0 q1 q2 q3
   go_wp2_with fail
   refine hcall.out.mono ?_
   rintro e w2 ⟨a2,n2,c2,rfl,hd2,hb2⟩
   obtain⟨⟨xr,xf,xl,xd⟩,x⟩:=X
   unfold Dk.val
   dsimp only at *
   have HS2:=Lib.hid (HS1.out.keep hb2)
   have hb3:Below w2.heap.size w2 (w2.alloc (.cells #[.int .i64 xr,.slice a2 n2 c2,.int .i64 xl,.bool xd] 38)):=(Below.refl _ w2).alloc (Nat.le_refl _) _
   have HS3:=Lib.hid (HS2.out.keep hb3)
   have HX3:Hid (DkBox (w2.alloc (.cells #[.int .i64 xr,.slice a2 n2 c2,.int .i64 xl,.bool xd] 38)) w2.heap.size ⟨xr,xf,xl,xd⟩ a2 n2 c2):=Lib.hid (DkBox.new w2 ⟨xr,xf,xl,xd⟩ a2 n2 c2)
   have HD3:=Lib.hid (hd2.keep hb3)
   clear q0 q1 q2 q3 HS1 HS2 hcall hb2 hb3 hd2
   go_upto_region 3 with fail
   generalize w2.alloc (.cells #[.int .i64 xr,.slice a2 n2 c2,.int .i64 xl,.bool xd] 38)=w3 at *
   generalize w2.heap.size=sb at *
   have z0:=HX3.out.c0; have z1:=HX3.out.c1; have z2:=HX3.out.c2; have z3:=HX3.out.c3
   dsimp only at z0 z1 z2 z3
   by_cases hx:x=0
   ·subst hx
    have hrr:=HX.out
    rw [if_pos rfl] at hrr
    have HS4:=Lib.hid (HS3.out.setBox HD3.out)
    have q0:=HS3.out.box.c0; have q1:=HS3.out.box.c1; have q2:=HS3.out.box.c2; have q3:=HS3.out.box.c3
    have g0:=HS3.out.box.free 0; have g1:=HS3.out.box.free 1; have g2:=HS3.out.box.free 2; have g3:=HS3.out.box.free 3
    dsimp only at q0 q1 q2 q3 HS4
    go_wp2_with fail
    go_meet
    exact⟨rfl,_,_,_,_,HS4,Lib.hid hrr⟩
   ·have hrr:=HX.out
    rw [if_neg hx] at hrr
    have hx0:(x != 0)=true:=by simpa using hx
    have o0:=HS3.out.out.c0; have o1:=HS3.out.out.c1; have o2:=HS3.out.out.c2; have o3:=HS3.out.out.c3
    have g0:=HS3.out.out.free 0; have g1:=HS3.out.out.free 1; have g2:=HS3.out.out.free 2; have g3:=HS3.out.out.free 3
    have HF:=Lib.hid (HS3.out.ret HD3.out x)
    clear HX hx
    dsimp only at HF o0 o1 o2 o3
    go_wp2_with fail
    refine bodyPost_ret (v:=.tuple #[.agg #[.int .i64 xr,.slice a2 n2 c2,.int .i64 xl,.bool xd],.int .i64 x]) ?_ rfl ?_
    ·rw [results_cell_tmp rfl]; go_simp
    ·rw [hrr]; exact HF.out
 obtain⟨rfl,dd,a',n',c',HS2,HQ⟩:=hcut
 obtain⟨X,hX⟩:∃ X,X=callS dd 1 ⟨#[108,111,103,46,110,101,119]⟩ WB:=⟨_,rfl⟩
 have HX:=Lib.hid (HQ.out.trans (stepsS_one (s:=⟨1,⟨#[108,111,103,46,110,101,119]⟩,WB⟩) (L:=[⟨2,⟨#[108,111,103,46,110,101,119]⟩,noB⟩,⟨3,⟨#[108,111,103,46,110,101,119]⟩,logN⟩]) hX.symm))
 obtain⟨rm',fl',lf',dn'⟩:=dd
 have hwh:Hid (∀ W,Below wc.heap.size wc W→Calls Tryz.prog 110 #[.agg #[.int .i64 tm,.int .i64 vo,.int .i64 ba,.int .i64 bt,.slice ar nr cr,.string sn,.slice av nv cv]] W fun e w'=>e = .returned (.string WB)∧Below W.heap.size W w'):=Lib.hid fun W hb=>HWH.out W (below_then HS2.out.bel hb HS2.out.bel.size)
 have hcl:Hid (∀ W,Below wc.heap.size wc W→Calls Tryz.prog 62 #[.agg #[.int .i64 rm',.slice a' n' c',.int .i64 lf',.bool dn'],.int .i64 1,.string ⟨#[108,111,103,46,110,101,119]⟩,.string WB] W (RetDk W X)):=Lib.hid fun W hb=>by rw [hX]; exact HCL.out a' n' c' ⟨rm',fl',lf',dn'⟩ 1 ⟨#[108,111,103,46,110,101,119]⟩ WB W (HS2.out.at_.keep hb) (by decide) (by decide) HZ.out
 clear hX HQ HR HWH HS1 HT
 go_wp2_with fail
 refine wp_region_lastV (regOf Tryz.f61 6) [some 26,some 27,some 28,some 29,some 25,some 30,some 31,some 8,none] 9 (ranT w.heap.size rm' a' n' c' lf' dn' (w.heap.size+1) tm vo ba bt ar nr cr sn av nv cv WB X wc) (CBox wc 38 7 8 [.int .i64 0,.slice none 0 0,.int .i64 0,.bool false] (finDk X.1)) ranD (by kernel_rfl) (by kernel_rfl) (by kernel_rfl) (by kernel_rfl) (by kernel_rfl) (by kernel_rfl) (by kernel_rfl) CBox.start (ran_steps w.heap.size rm' a' n' c' lf' dn' (w.heap.size+1) tm vo ba bt ar nr cr sn av nv cv WB X wc HS2.out.box.lt HS2.out.box.c0 HS2.out.box.c1 HS2.out.box.c2 HS2.out.box.c3 (lt_of_block HS2.out.hd) (HS2.out.hd.cell (j:=0) rfl) (HS2.out.hd.cell (j:=1) rfl) (HS2.out.hd.cell (j:=2) rfl) (HS2.out.hd.cell (j:=3) rfl) (HS2.out.hd.cell (j:=4) rfl) (HS2.out.hd.cell (j:=5) rfl) (HS2.out.hd.cell (j:=6) rfl) hwh.out hcl.out (by kernel_rfl) rfl rfl) ?_
 intro oL hoL eL vs w4 hn hlk hCw4 hT KL hKL
 replace hn:vs.length=9:=hn
 obtain⟨v0,vs1,rfl,hn1⟩:=len_cons hn
 obtain⟨v1,vs2,rfl,hn2⟩:=len_cons hn1
 obtain⟨v2,vs3,rfl,hn3⟩:=len_cons hn2
 obtain⟨v3,vs4,rfl,hn4⟩:=len_cons hn3
 obtain⟨v4,vs5,rfl,hn5⟩:=len_cons hn4
 obtain⟨v5,vs6,rfl,hn6⟩:=len_cons hn5
 obtain⟨v6,vs7,rfl,hn7⟩:=len_cons hn6
 obtain⟨v7,vs8,rfl,hn8⟩:=len_cons hn7
 obtain⟨v8,vs9,rfl,hn9⟩:=len_cons hn8
 obtain rfl:=List.eq_nil_of_length_eq_zero hn9
 clear hn hn1 hn2 hn3 hn4 hn5 hn6 hn7 hn8 hn9
 obtain rfl:v0 = .agg #[.int .i64 rm',.slice a' n' c',.int .i64 lf',.bool dn']:=hT 0 v0 rfl (by kernel_rfl)
 obtain rfl:v1 = .agg #[.int .i64 tm,.int .i64 vo,.int .i64 ba,.int .i64 bt,.slice ar nr cr,.string sn,.slice av nv cv]:=hT 1 v1 rfl (by kernel_rfl)
 obtain rfl:v2 = .string WB:=hT 2 v2 rfl (by kernel_rfl)
 obtain rfl:v6 = .int .i64 X.2:=hT 6 v6 rfl (by kernel_rfl)
 obtain⟨p,hpv,hpb,-,hfin⟩:=hCw4.2 v7 (hlk 7 v7 rfl)
 subst hpv
 obtain⟨cs,hbox,a4,n4,c4,rfl,hd4⟩:=hfin v8 (hlk 8 v8 rfl)
 have hBw4:=hCw4.1
 clear hT hfin hlk hCw4
 have hoL1:=opIs hoL (p:=.assign (.tmp 31)) (by kernel_rfl)
 have hgL:=guardIs hoL (p:=none) (by kernel_rfl)
 have hdL:oL.dst=some 9:=by have:=(show ((regOf Tryz.f61 6)[9]?).map (·.dst)=some (some 9) by kernel_rfl); rw [hoL] at this; simpa using this
 rw [if_pos (wanted_free hgL)]
 rw [hdL] at hKL
 simp only [puts,Act.put,List.setIfInBounds_toArray,List.set_cons_succ,List.set_cons_zero] at hKL ⊢
 unfold Oper.wp
 rw [run_assign hoL1 (v:=.int .i64 X.2) rfl _]
 show KL (Act.put _ oL.dst (.int .i64 X.2)) _
 rw [hdL]
 refine hKL _ _ ?_
 clear hKL hoL1 hgL hdL hoL
 have HS4:=Lib.hid (HS2.out.keep hBw4)
 have HX4:Hid (DkBox w4 p X.1 a4 n4 c4):=Lib.hid hbox
 have HD4:=Lib.hid hd4
 clear hbox hd4 hBw4 hwh hcl HS2
 obtain⟨⟨xr,xf,xl,xd⟩,x⟩:=X
 dsimp only at *
 have z0:=HX4.out.c0; have z1:=HX4.out.c1; have z2:=HX4.out.c2; have z3:=HX4.out.c3
 dsimp only at z0 z1 z2 z3
 by_cases hx:x=0
 ·subst hx
  have hrr:=HX.out
  rw [if_pos rfl] at hrr
  obtain⟨Y,hY⟩:∃ Y,Y=callS ⟨xr,xf,xl,xd⟩ 2 ⟨#[108,111,103,46,110,101,119]⟩ noB:=⟨_,rfl⟩
  have HY:=Lib.hid (hrr.trans (stepsS_one (s:=⟨2,⟨#[108,111,103,46,110,101,119]⟩,noB⟩) (L:=[⟨3,⟨#[108,111,103,46,110,101,119]⟩,logN⟩]) hY.symm))
  have hcall:=Lib.hid (HCL.out a4 n4 c4 ⟨xr,xf,xl,xd⟩ 2 ⟨#[108,111,103,46,110,101,119]⟩ noB w4 HD4.out (by decide) (by decide) (by decide))
  rw [← hY] at hcall
  unfold noB at hcall
  clear HX hrr hY
  go_wp2_with fail
  refine hcall.out.mono ?_
  rintro e w5 ⟨a5,n5,c5,rfl,hd5,hb5⟩
  obtain⟨⟨yr,yf,yl,yd⟩,y⟩:=Y
  unfold Dk.val
  dsimp only at *
  have HS5:=Lib.hid (HS4.out.keep hb5)
  have hb6:Below w5.heap.size w5 (w5.alloc (.cells #[.int .i64 yr,.slice a5 n5 c5,.int .i64 yl,.bool yd] 38)):=(Below.refl _ w5).alloc (Nat.le_refl _) _
  have HS6:=Lib.hid (HS5.out.keep hb6)
  have HX6:Hid (DkBox (w5.alloc (.cells #[.int .i64 yr,.slice a5 n5 c5,.int .i64 yl,.bool yd] 38)) w5.heap.size ⟨yr,yf,yl,yd⟩ a5 n5 c5):=Lib.hid (DkBox.new w5 ⟨yr,yf,yl,yd⟩ a5 n5 c5)
  have HD6:=Lib.hid (hd5.keep hb6)
  clear z0 z1 z2 z3 HX4 HD4 HS4 HS5 hcall hb5 hb6 hd5
  go_upto_region 10 with fail
  generalize w5.alloc (.cells #[.int .i64 yr,.slice a5 n5 c5,.int .i64 yl,.bool yd] 38)=w6 at *
  generalize w5.heap.size=sb6 at *
  have z0:=HX6.out.c0; have z1:=HX6.out.c1; have z2:=HX6.out.c2; have z3:=HX6.out.c3
  dsimp only at z0 z1 z2 z3
  by_cases hy:y=0
  ·subst hy
   have hrr:=HY.out
   rw [if_pos rfl] at hrr
   obtain⟨V,hV⟩:∃ V,V=callS ⟨yr,yf,yl,yd⟩ 3 ⟨#[108,111,103,46,110,101,119]⟩ logN:=⟨_,rfl⟩
   have hrv:=hrr.trans (stepsS_last (s:=⟨3,⟨#[108,111,103,46,110,101,119]⟩,logN⟩) hV.symm)
   have hcall:=Lib.hid (HCL.out a5 n5 c5 ⟨yr,yf,yl,yd⟩ 3 ⟨#[108,111,103,46,110,101,119]⟩ logN w6 HD6.out (by decide) (by decide) (by decide))
   rw [← hV] at hcall
   unfold logN at hcall
   clear HY hrr hV
   go_wp2_with fail
   refine hcall.out.mono ?_
   rintro e w7 ⟨a7,n7,c7,rfl,hd7,hb7⟩
   obtain⟨⟨vr,vf,vl,vd⟩,v⟩:=V
   unfold Dk.val
   dsimp only at *
   have HS7:=Lib.hid (HS6.out.keep hb7)
   have o0:=HS7.out.out.c0; have o1:=HS7.out.out.c1; have o2:=HS7.out.out.c2; have o3:=HS7.out.out.c3
   have g0:=HS7.out.out.free 0; have g1:=HS7.out.out.free 1; have g2:=HS7.out.out.free 2; have g3:=HS7.out.out.free 3
   have HF:=Lib.hid (HS7.out.ret hd7 v)
   clear z0 z1 z2 z3 HX6 HD6 HS6 hcall hb7 hd7
   dsimp only at HF o0 o1 o2 o3
   go_wp2_with fail
   refine bodyPost_ret (v:=.tuple #[.agg #[.int .i64 vr,.slice a7 n7 c7,.int .i64 vl,.bool vd],.int .i64 v]) ?_ rfl ?_
   ·rw [results_cell_tmp rfl]; go_simp
   ·rw [hrv]; exact HF.out
  ·have hrr:=HY.out
   rw [if_neg hy] at hrr
   have hy0:(y != 0)=true:=by simpa using hy
   have o0:=HS6.out.out.c0; have o1:=HS6.out.out.c1; have o2:=HS6.out.out.c2; have o3:=HS6.out.out.c3
   have g0:=HS6.out.out.free 0; have g1:=HS6.out.out.free 1; have g2:=HS6.out.out.free 2; have g3:=HS6.out.out.free 3
   have HF:=Lib.hid (HS6.out.ret HD6.out y)
   clear HY hy
   dsimp only at HF o0 o1 o2 o3
   go_wp2_with fail
   refine bodyPost_ret (v:=.tuple #[.agg #[.int .i64 yr,.slice a5 n5 c5,.int .i64 yl,.bool yd],.int .i64 y]) ?_ rfl ?_
   ·rw [results_cell_tmp rfl]; go_simp
   ·rw [hrr]; exact HF.out
 ·have hrr:=HX.out
  rw [if_neg hx] at hrr
  have hx0:(x != 0)=true:=by simpa using hx
  have o0:=HS4.out.out.c0; have o1:=HS4.out.out.c1; have o2:=HS4.out.out.c2; have o3:=HS4.out.out.c3
  have g0:=HS4.out.out.free 0; have g1:=HS4.out.out.free 1; have g2:=HS4.out.out.free 2; have g3:=HS4.out.out.free 3
  have HF:=Lib.hid (HS4.out.ret HD4.out x)
  clear HX hx
  dsimp only at HF o0 o1 o2 o3
  go_wp2_with fail
  refine bodyPost_ret (v:=.tuple #[.agg #[.int .i64 xr,.slice a4 n4 c4,.int .i64 xl,.bool xd],.int .i64 x]) ?_ rfl ?_
  ·rw [results_cell_tmp rfl]; go_simp
  ·rw [hrr]; exact HF.out
end Go.Proofs.YtlpgbmaoenncjaaGreatDoor

/-
  The walk of the reference's Save.
-/
import Derived.Test.YtlpgbmaoenncjaaGreatDoorWsH
import Derived.Test.YtlpgbmaoenncjaaGreatDoorWsE
namespace Go.Proofs.YtlpgbmaoenncjaaGreatDoor
open Go.RowKit
set_option linter.unusedVariables false
set_option maxRecDepth 100000
structure SvSt (w wx:World) (cs ds:List Value) (d:Dk) (a:Option Addr) (n c:Nat):Prop where
 box:DkBox wx w.heap.size d a n c
 hd:Blk wx (w.heap.size+1) 42 cs
 nw:Blk wx (w.heap.size+1+1) 42 ds
 out:DkBox wx (w.heap.size+1+1+1) Dk.zero none 0 0
 at_:DkAt wx a n c d
 bel:Below w.heap.size w wx
theorem SvSt.keep {w wx w':World}{cs ds:List Value}{d:Dk}{a:Option Addr}{n c:Nat}(h:SvSt w wx cs ds d a n c) (hb:Below wx.heap.size wx w'):SvSt w w' cs ds d a n c :=
 ⟨h.box.keep hb,h.hd.keep hb,h.nw.keep hb,h.out.keep hb,h.at_.keep hb,below_then h.bel hb h.bel.size⟩
theorem sv_start (w:World) (cs ds:List Value) {d:Dk}{a:Option Addr}{n c:Nat}(h:DkAt w a n c d) :
 SvSt w ((((w.alloc (.cells #[.int .i64 d.room,.slice a n c,.int .i64 d.left,.bool d.down] 38)).alloc (.cells cs.toArray 42)).alloc (.cells ds.toArray 42)).alloc (.cells #[.int .i64 0,.slice none 0 0,.int .i64 0,.bool false] 38)) cs ds d a n c:=by
 have b1:Below w.heap.size w (w.alloc (.cells #[.int .i64 d.room,.slice a n c,.int .i64 d.left,.bool d.down] 38)):=(Below.refl _ w).alloc (Nat.le_refl _) _
 have h0:=DkBox.new w d a n c
 have e1:(w.alloc (.cells #[.int .i64 d.room,.slice a n c,.int .i64 d.left,.bool d.down] 38)).heap.size=w.heap.size+1:=World.size_alloc ..
 have h1:=heap_alloc_new (w.alloc (.cells #[.int .i64 d.room,.slice a n c,.int .i64 d.left,.bool d.down] 38)) (.cells cs.toArray 42)
 rw [e1] at h1
 generalize w.alloc (.cells #[.int .i64 d.room,.slice a n c,.int .i64 d.left,.bool d.down] 38)=w1 at *
 have b2:Below w1.heap.size w1 (w1.alloc (.cells cs.toArray 42)):=(Below.refl _ w1).alloc (Nat.le_refl _) _
 have e2:(w1.alloc (.cells cs.toArray 42)).heap.size=w.heap.size+1+1:=by rw [World.size_alloc,e1]
 have h2:=heap_alloc_new (w1.alloc (.cells cs.toArray 42)) (.cells ds.toArray 42)
 rw [e2] at h2
 have g0:=h0.keep b2
 have c2:=below_then b1 b2 b1.size
 generalize w1.alloc (.cells cs.toArray 42)=w2 at *
 have b3:Below w2.heap.size w2 (w2.alloc (.cells ds.toArray 42)):=(Below.refl _ w2).alloc (Nat.le_refl _) _
 have e3:(w2.alloc (.cells ds.toArray 42)).heap.size=w.heap.size+1+1+1:=by rw [World.size_alloc,e2]
 have h3:=heap_alloc_new (w2.alloc (.cells ds.toArray 42)) (.cells #[.int .i64 0,.slice none 0 0,.int .i64 0,.bool false] 38)
 rw [e3] at h3
 have f0:=g0.keep b3
 have f1:Blk (w2.alloc (.cells ds.toArray 42)) (w.heap.size+1) 42 cs:=Blk.keep (show Blk w2 (w.heap.size+1) 42 cs from h1) b3
 have c3:=below_then c2 b3 c2.size
 generalize w2.alloc (.cells ds.toArray 42)=w3 at *
 have b4:Below w3.heap.size w3 (w3.alloc (.cells #[.int .i64 0,.slice none 0 0,.int .i64 0,.bool false] 38)):=(Below.refl _ w3).alloc (Nat.le_refl _) _
 have c4:=below_then c3 b4 c3.size
 exact⟨f0.keep b4,f1.keep b4,Blk.keep (show Blk w3 (w.heap.size+1+1) 42 ds from h2) b4,h3,h.keep c4,c4⟩
theorem SvSt.ret {w wx:World}{cs ds:List Value}{d:Dk}{a:Option Addr}{n c:Nat}(h:SvSt w wx cs ds d a n c) {e:Dk}{a':Option Addr}{n' c':Nat}(he:DkAt wx a' n' c' e) (x:Int) :
 RetDk w (e,x) (.returned (.tuple #[.agg #[.int .i64 e.room,.slice a' n' c',.int .i64 e.left,.bool e.down],.int .i64 x])) ((((wx.setCell ⟨w.heap.size+1+1+1,0,none⟩ (.int .i64 e.room)).setCell ⟨w.heap.size+1+1+1,1,none⟩ (.slice a' n' c')).setCell ⟨w.heap.size+1+1+1,2,none⟩ (.int .i64 e.left)).setCell ⟨w.heap.size+1+1+1,3,none⟩ (.bool e.down)) :=
 RetDk.store he h.bel h.out (by omega)
def rsvT (BD:Nat) (rm:Int) (da:Option Addr) (dm:Nat) (dc:Nat) (lf:Int) (dn:Bool) (P1:ByteArray) (FB:ByteArray) (X:Dk × Int) (w1:World):Nat→Value→World→Prop
 | 0,v,w=>v = .agg #[.int .i64 rm,.slice da dm dc,.int .i64 lf,.bool dn]
 | 1,v,w=>v = .string P1
 | 2,v,w=>v = .string FB
 | 3,v,w=>∃ a n c,v = .tuple #[Dk.val X.1 a n c,.int .i64 X.2]∧DkAt w a n c X.1
 | 4,v,w=>∃ a n c,v = .tuple #[Dk.val X.1 a n c,.int .i64 X.2]∧DkAt w a n c X.1
 | 5,v,w=>∃ a n c,v=Dk.val X.1 a n c∧DkAt w a n c X.1
 | 6,v,w=>v = .int .i64 X.2
 | 7,v,w=>True
 | 8,v,w=>True
 | _,_,_=>True
def rsvD:Nat→List Nat
 | _=>[]
theorem rsv_keep (BD:Nat) (rm:Int) (da:Option Addr) (dm:Nat) (dc:Nat) (lf:Int) (dn:Bool) (P1:ByteArray) (FB:ByteArray) (X:Dk × Int) (w1:World):∀ (j:Nat) (u:Value) (w w':World),Below w.heap.size w w'→(rsvT BD rm da dm dc lf dn P1 FB X w1) j u w→(rsvT BD rm da dm dc lf dn P1 FB X w1) j u w'
 | 3,u,w,w',hb,h=>by obtain⟨a,n,c,rfl,h1⟩:=h; exact⟨a,n,c,rfl,h1.keep hb⟩
 | 4,u,w,w',hb,h=>by obtain⟨a,n,c,rfl,h1⟩:=h; exact⟨a,n,c,rfl,h1.keep hb⟩
 | 5,u,w,w',hb,h=>by obtain⟨a,n,c,rfl,h1⟩:=h; exact⟨a,n,c,rfl,h1.keep hb⟩
 | 7,u,w,w',hb,h=>trivial
 | 8,u,w,w',hb,h=>trivial
 | 0,u,w,w',hb,h=>h
 | 1,u,w,w',hb,h=>h
 | 2,u,w,w',hb,h=>h
 | 6,u,w,w',hb,h=>h
 | _+9,u,w,w',hb,h=>trivial
theorem rsv_set (BD:Nat) (rm:Int) (da:Option Addr) (dm:Nat) (dc:Nat) (lf:Int) (dn:Bool) (P1:ByteArray) (FB:ByteArray) (X:Dk × Int) (w1:World):∀ (j:Nat) (u:Value) (w w':World),(∀ a n c,DkAt w a n c X.1→DkAt w' a n c X.1)→(rsvT BD rm da dm dc lf dn P1 FB X w1) j u w→(rsvT BD rm da dm dc lf dn P1 FB X w1) j u w'
 | 3,u,w,w',hb,h=>by obtain⟨a,n,c,rfl,hd⟩:=h; exact⟨a,n,c,rfl,hb _ _ _ hd⟩
 | 4,u,w,w',hb,h=>by obtain⟨a,n,c,rfl,hd⟩:=h; exact⟨a,n,c,rfl,hb _ _ _ hd⟩
 | 5,u,w,w',hb,h=>by obtain⟨a,n,c,rfl,hd⟩:=h; exact⟨a,n,c,rfl,hb _ _ _ hd⟩
 | 0,u,w,w',hb,h=>h
 | 1,u,w,w',hb,h=>h
 | 2,u,w,w',hb,h=>h
 | 6,u,w,w',hb,h=>h
 | 7,u,w,w',hb,h=>h
 | 8,u,w,w',hb,h=>h
 | _+9,u,w,w',hb,h=>trivial
set_option maxHeartbeats 4000000 in
theorem rsv_steps (BD:Nat) (rm:Int) (da:Option Addr) (dm:Nat) (dc:Nat) (lf:Int) (dn:Bool) (P1:ByteArray) (FB:ByteArray) (X:Dk × Int) (w1:World) (hBD:BD<w1.heap.size) (hBD0:w1.cell? ⟨BD,0,none⟩=some (.int .i64 rm)) (hBD1:w1.cell? ⟨BD,1,none⟩=some (.slice da dm dc)) (hBD2:w1.cell? ⟨BD,2,none⟩=some (.int .i64 lf)) (hBD3:w1.cell? ⟨BD,3,none⟩=some (.bool dn)) (hfr:∀ W,Below w1.heap.size w1 W→Calls Tryz.prog 41 #[.string P1] W fun e w'=>e = .returned (.string FB)∧Below W.heap.size W w') (hcl:∀ W,Below w1.heap.size w1 W→Calls Tryz.prog 62 #[.agg #[.int .i64 rm,.slice da dm dc,.int .i64 lf,.bool dn],(.int .i64 1),(.string ⟨#[108,111,103]⟩),.string FB] W (RetDk W X)) {a:Act}(hs:a.tmps.size=105) (b3:a.eval (.tmp 3) = .pointer (some ⟨BD,0,none⟩)) (b9:a.eval (.tmp 9) = .string P1):∀ i o,i<9→(regOf Tryz.f20 11)[i]? = some o→StepOkE Tryz.prog (regOf Tryz.f20 11) a (CBox w1 38 7 8 [.int .i64 0,.slice none 0 0,.int .i64 0,.bool false] (finDk X.1)) (rsvT BD rm da dm dc lf dn P1 FB X w1) rsvD i o:=by
 have hz:∀ t,Nat.blt t 105=true→Nat.blt t a.tmps.size=true:=fun t h=>by rw [hs]; exact h
 have hsz:(regOf Tryz.f20 11).size=10:=by kernel_rfl
 intro i o hii ho
 match i,hii with
 | 0,_ =>
   have ho1:=opIs ho (p:=.load 38 (.tmp 3)) (by kernel_rfl)
   have hg:=guardIs ho (p:=none) (by kernel_rfl)
   intro e A w hA hC hp hup K hk
   have hCB:=hC.1
   replace hk:Next (regOf Tryz.f20 11) (fun w'=>Below w.heap.size w w') (rsvT BD rm da dm dc lf dn P1 FB X w1) rsvD 0 e A w o.dst K:=hk.next fun v w' hb=>CBox.keep (finDk_keep X.1) hC hb (by decide) (by decide) v
   replace hC:=Below.refl w.heap.size w
   have x3:A.eval (.tmp 3) = .pointer (some ⟨BD,0,none⟩):=filled_base hA (by kernel_rfl) b3
   have hw:Region.wanted o (yielded (regOf Tryz.f20 11) A.tmps)=true:=wanted_free hg
   have e0:=(World.cell?_of_block (a:=⟨BD,0,none⟩) (hCB.block BD hBD)).trans hBD0
   have e1:=(World.cell?_of_block (a:=⟨BD,1,none⟩) (hCB.block BD hBD)).trans hBD1
   have e2:=(World.cell?_of_block (a:=⟨BD,2,none⟩) (hCB.block BD hBD)).trans hBD2
   have e3:=(World.cell?_of_block (a:=⟨BD,3,none⟩) (hCB.block BD hBD)).trans hBD3
   refine step_pure (v:=.agg #[.int .i64 rm,.slice da dm dc,.int .i64 lf,.bool dn]) hk hC hw ?_ rfl
   unfold execOp
   simp only [ho1]
   skip
   generalize A.eval=ρ at x3 ⊢
   simp [go_sem,x3,e0,e1,e2,e3]
 | 1,_ =>
   have ho1:=opIs ho (p:=.move (.tmp 9)) (by kernel_rfl)
   have hg:=guardIs ho (p:=none) (by kernel_rfl)
   intro e A w hA hC hp hup K hk
   have hCB:=hC.1
   replace hk:Next (regOf Tryz.f20 11) (fun w'=>Below w.heap.size w w') (rsvT BD rm da dm dc lf dn P1 FB X w1) rsvD 1 e A w o.dst K:=hk.next fun v w' hb=>CBox.keep (finDk_keep X.1) hC hb (by decide) (by decide) v
   replace hC:=Below.refl w.heap.size w
   have x9:A.eval (.tmp 9) = .string P1:=filled_base hA (by kernel_rfl) b9
   have hw:Region.wanted o (yielded (regOf Tryz.f20 11) A.tmps)=true:=wanted_free hg
   exact step_pure hk hC hw (run_move ho1 x9 w) rfl
 | 2,_ =>
   have ho1:=opIs ho (p:=.call { callee:=(.value (.func 41)),args:=#[(.tmp 92)],argTypes:=#[9] }) (by kernel_rfl)
   have hg:=guardIs ho (p:=none) (by kernel_rfl)
   intro e A w hA hC hp hup K hk
   have hCB:=hC.1
   replace hk:Next (regOf Tryz.f20 11) (fun w'=>Below w.heap.size w w') (rsvT BD rm da dm dc lf dn P1 FB X w1) rsvD 2 e A w o.dst K:=hk.next fun v w' hb=>CBox.keep (finDk_keep X.1) hC hb (by decide) (by decide) v
   replace hC:=Below.refl w.heap.size w
   have x92:A.eval (.tmp 92) = .string P1:=op_tmp hA hp 92 1 (by kernel_rfl) (by kernel_rfl) (by kernel_rfl) (hz _ rfl)
   have hw:Region.wanted o (yielded (regOf Tryz.f20 11) A.tmps)=true:=wanted_free hg
   refine step_call (f:=41) (args:=#[.string P1]) hk hw ?_ ?_
   ·unfold execOp
    simp only [ho1]
    have xf:∀ f,A.eval (.func f) = .func (.func f) #[] #[]:=fun _=>rfl
    have xc:∀ v,A.eval (.const v)=v:=fun _=>rfl
    generalize A.eval=ρ at x92 xf xc ⊢
    simp [go_sem,xf,x92]
   ·refine (hfr w hCB).mono ?_
    rintro en' w' ⟨rfl,hb'⟩
    exact⟨_,rfl,rfl,hb',fun j u _ _ _ _ h=>rsv_keep BD rm da dm dc lf dn P1 FB X w1 j u w _ hb' h⟩
 | 3,_ =>
   have ho1:=opIs ho (p:=.call { callee:=(.value (.func 62)),args:=#[(.tmp 91),(.const (.int .i64 1)),(.const (.string ⟨#[108,111,103]⟩)),(.tmp 93)],argTypes:=#[38,3,9,9] }) (by kernel_rfl)
   have hg:=guardIs ho (p:=none) (by kernel_rfl)
   intro e A w hA hC hp hup K hk
   have hCB:=hC.1
   replace hk:Next (regOf Tryz.f20 11) (fun w'=>Below w.heap.size w w') (rsvT BD rm da dm dc lf dn P1 FB X w1) rsvD 3 e A w o.dst K:=hk.next fun v w' hb=>CBox.keep (finDk_keep X.1) hC hb (by decide) (by decide) v
   replace hC:=Below.refl w.heap.size w
   have x91:A.eval (.tmp 91) = .agg #[.int .i64 rm,.slice da dm dc,.int .i64 lf,.bool dn]:=op_tmp hA hp 91 0 (by kernel_rfl) (by kernel_rfl) (by kernel_rfl) (hz _ rfl)
   have x93:A.eval (.tmp 93) = .string FB:=op_tmp hA hp 93 2 (by kernel_rfl) (by kernel_rfl) (by kernel_rfl) (hz _ rfl)
   have hw:Region.wanted o (yielded (regOf Tryz.f20 11) A.tmps)=true:=wanted_free hg
   refine step_call (f:=62) (args:=#[.agg #[.int .i64 rm,.slice da dm dc,.int .i64 lf,.bool dn],(.int .i64 1),(.string ⟨#[108,111,103]⟩),.string FB]) hk hw ?_ ?_
   ·unfold execOp
    simp only [ho1]
    have xf:∀ f,A.eval (.func f) = .func (.func f) #[] #[]:=fun _=>rfl
    have xc:∀ v,A.eval (.const v)=v:=fun _=>rfl
    generalize A.eval=ρ at x91 x93 xf xc ⊢
    simp [go_sem,xf,xc,x91,x93]
   ·refine (hcl w hCB).mono ?_
    rintro en' w' ⟨a,n,c,rfl,hd,hb'⟩
    exact⟨_,rfl,⟨a,n,c,rfl,hd⟩,hb',fun j u _ _ _ _ h=>rsv_keep BD rm da dm dc lf dn P1 FB X w1 j u w _ hb' h⟩
 | 4,_ =>
   have ho1:=opIs ho (p:=.move (.tmp 94)) (by kernel_rfl)
   have hg:=guardIs ho (p:=none) (by kernel_rfl)
   intro e A w hA hC hp hup K hk
   have hCB:=hC.1
   replace hk:Next (regOf Tryz.f20 11) (fun w'=>Below w.heap.size w w') (rsvT BD rm da dm dc lf dn P1 FB X w1) rsvD 4 e A w o.dst K:=hk.next fun v w' hb=>CBox.keep (finDk_keep X.1) hC hb (by decide) (by decide) v
   replace hC:=Below.refl w.heap.size w
   have x94:=op_tmp hA hp 94 3 (by kernel_rfl) (by kernel_rfl) (by kernel_rfl) (hz _ rfl)
   have hw:Region.wanted o (yielded (regOf Tryz.f20 11) A.tmps)=true:=wanted_free hg
   obtain⟨a,n,c,x94,hd⟩:=x94
   exact step_pure hk hC hw (run_move ho1 x94 w) ⟨a,n,c,rfl,hd⟩
 | 5,_ =>
   have ho1:=opIs ho (p:=.extract (.tmp 90) 0) (by kernel_rfl)
   have hg:=guardIs ho (p:=none) (by kernel_rfl)
   intro e A w hA hC hp hup K hk
   have hCB:=hC.1
   replace hk:Next (regOf Tryz.f20 11) (fun w'=>Below w.heap.size w w') (rsvT BD rm da dm dc lf dn P1 FB X w1) rsvD 5 e A w o.dst K:=hk.next fun v w' hb=>CBox.keep (finDk_keep X.1) hC hb (by decide) (by decide) v
   replace hC:=Below.refl w.heap.size w
   have x90:=op_tmp hA hp 90 4 (by kernel_rfl) (by kernel_rfl) (by kernel_rfl) (hz _ rfl)
   have hw:Region.wanted o (yielded (regOf Tryz.f20 11) A.tmps)=true:=wanted_free hg
   obtain⟨a,n,c,x90,hd⟩:=x90
   exact step_pure hk hC hw (run_extract ho1 x90 rfl w) ⟨a,n,c,rfl,hd⟩
 | 6,_ =>
   have ho1:=opIs ho (p:=.extract (.tmp 90) 1) (by kernel_rfl)
   have hg:=guardIs ho (p:=none) (by kernel_rfl)
   intro e A w hA hC hp hup K hk
   have hCB:=hC.1
   replace hk:Next (regOf Tryz.f20 11) (fun w'=>Below w.heap.size w w') (rsvT BD rm da dm dc lf dn P1 FB X w1) rsvD 6 e A w o.dst K:=hk.next fun v w' hb=>CBox.keep (finDk_keep X.1) hC hb (by decide) (by decide) v
   replace hC:=Below.refl w.heap.size w
   have x90:=op_tmp hA hp 90 4 (by kernel_rfl) (by kernel_rfl) (by kernel_rfl) (hz _ rfl)
   have hw:Region.wanted o (yielded (regOf Tryz.f20 11) A.tmps)=true:=wanted_free hg
   obtain⟨a,n,c,x90,hd⟩:=x90
   exact step_pure hk hC hw (run_extract ho1 x90 rfl w) rfl
 | 7,_ =>
   have ho1:=opIs ho (p:=.alloc 38) (by kernel_rfl)
   have hg:=guardIs ho (p:=none) (by kernel_rfl)
   intro e A w hA hC hp hup K hk
   have hw:Region.wanted o (yielded (regOf Tryz.f20 11) A.tmps)=true:=wanted_free hg
   refine step_valueE (v:=.pointer (some ⟨w.heap.size,0,none⟩)) (w':=w.alloc (.cells #[.int .i64 0,.slice none 0 0,.int .i64 0,.bool false] 38)) hk hw ?_ trivial ?_ ?_
   ·unfold execOp
    simp only [ho1]
    simp [go_sem]
   ·exact CBox.made hC (by decide) (hup 8 (by kernel_rfl))
   ·intro j u _ _ _ _ h
    exact rsv_keep BD rm da dm dc lf dn P1 FB X w1 j u w _ ((Below.refl _ w).alloc (Nat.le_refl _) _) h
 | 8,_ =>
   have ho1:=opIs ho (p:=.store 38 (.tmp 11) (.tmp 95)) (by kernel_rfl)
   have hg:=guardIs ho (p:=none) (by kernel_rfl)
   intro e A w hA hC hp hup K hk
   have x11:=op_tmp hA hp 11 7 (by kernel_rfl) (by kernel_rfl) (by kernel_rfl) (hz _ rfl)
   have x95:=op_tmp hA hp 95 5 (by kernel_rfl) (by kernel_rfl) (by kernel_rfl) (hz _ rfl)
   have hw:Region.wanted o (yielded (regOf Tryz.f20 11) A.tmps)=true:=wanted_free hg
   obtain⟨a,n,c,xv,hd⟩:=x95
   obtain⟨u,hu,-⟩:=hp 7 (by kernel_rfl)
   obtain⟨p,rfl,hp1,hzb,-⟩:=hC.2 u hu
   have xa:A.eval (.tmp 11) = .pointer (some ⟨p,0,none⟩):=filled_tmp hA (by kernel_rfl) hu (by simpa [Nat.blt_eq] using hz 11 rfl)
   have hzero:Four w p 38 (.int .i64 0) (.slice none 0 0) (.int .i64 0) (.bool false):=hzb (hup 8 (by kernel_rfl))
   have z0:=hzero.c0; have z1:=hzero.c1; have z2:=hzero.c2; have z3:=hzero.c3
   have f0:=hzero.free 0; have f1:=hzero.free 1; have f2:=hzero.free 2; have f3:=hzero.free 3
   refine step_skipE (w':=((((w.setCell ⟨p,0,none⟩ (.int .i64 X.1.room)).setCell ⟨p,1,none⟩ (.slice a n c)).setCell ⟨p,2,none⟩ (.int .i64 X.1.left)).setCell ⟨p,3,none⟩ (.bool X.1.down))) hk hw ?_ trivial ?_ ?_
   ·clear x11
    unfold execOp
    simp only [ho1]
    unfold Dk.val at xv
    generalize A.eval=ρ at xv xa ⊢
    simp [go_sem,xv,xa,z0,z1,z2,z3,f0,f1,f2,f3]
   ·exact hC.storeDk (by decide) hu hp1 hzero hd
   ·intro j u _ _ _ _ h
    exact rsv_set BD rm da dm dc lf dn P1 FB X w1 j u w _ (fun a n c hd=>hd.setD (e:=Dk.zero) (a1:=none) (n1:=0) (c1:=0) hzero _ _ _ _) h
 | _+9,h=>exact absurd h (by omega)
set_option maxHeartbeats 6000000 in
theorem rsave_any (a:Option Addr) (n c:Nat) (d:Dk) (old now:Hd) (ar:Option Addr) (nr cr:Nat) (av:Option Addr) (nv cv:Nat) (ar1:Option Addr) (nr1 cr1:Nat) (av1:Option Addr) (nv1 cv1:Nat) (w:World) (hd:DkAt w a n c d)
 (H:HdAt w old ar nr cr av nv cv) (H1:HdAt w now ar1 nr1 cr1 av1 nv1 cv1) (htab:Lib.TabIs Tryz.prog w "internal/strconv.uint64pow10" .u64 Lib.pow10Tab)
 (HC:Hid (∀ (a:Option Addr) (n c:Nat) (d:Dk) (what:Int) (nm more:ByteArray) (W:World),DkAt W a n c d→1≤what∧what≤4→nm.size≤maxLen→more.size≤2097152→Calls Tryz.prog 111 #[d.val a n c,.int .i64 what,.string nm,.string more] W (RetDk W (callK d what nm more)))) :
 Calls Tryz.prog 20 #[d.val a n c,old.val ar nr cr av nv cv,now.val ar1 nr1 cr1 av1 nv1 cv1] w (RetDk w (saveS d old now)):=by
 have HT:=Lib.hid (Lib.tabBelow_of_tabIs htab)
 obtain⟨r,hr0⟩:∃ r,r=saveS d old now:=⟨_,rfl⟩
 rw [← hr0]
 unfold saveS at hr0
 rw [← goR_eq] at hr0
 have HRD:Hid (∀ W,Below w.heap.size w W→Calls Tryz.prog 57 #[d.val a n c] W fun e w'=>e = .returned (.bool (rightD d))∧Below W.heap.size W w'):=Lib.hid fun W hb=>refRight_any a n c d W (hd.keep hb) _ (Lib.hid rfl)
 have HRO:Hid (∀ W,Below w.heap.size w W→Calls Tryz.prog 58 #[old.val ar nr cr av nv cv] W fun e w'=>e = .returned (.bool (rightH old))∧Below W.heap.size W w'):=Lib.hid fun W hb=>rright14_any old ar nr cr av nv cv W (H.keep hb) (HT.out _ hb) _ (Lib.hid rfl)
 have HRN:Hid (∀ W,Below w.heap.size w W→Calls Tryz.prog 58 #[now.val ar1 nr1 cr1 av1 nv1 cv1] W fun e w'=>e = .returned (.bool (rightH now))∧Below W.heap.size W w'):=Lib.hid fun W hb=>rright14_any now ar1 nr1 cr1 av1 nv1 cv1 W (H1.keep hb) (HT.out _ hb) _ (Lib.hid rfl)
 have HAT:Hid (∀ W,Below w.heap.size w W→Calls Tryz.prog 59 #[d.val a n c,.string logN] W fun e w'=>e = .returned (.int .i64 (atL d.files logN))∧Below W.heap.size W w'):=Lib.hid fun W hb=>refAt_any a n c d logN W (hd.keep hb) _ (Lib.hid rfl)
 have HLK:Hid (∀ W,Below w.heap.size w W→Calls Tryz.prog 27 #[old.val ar nr cr av nv cv,now.val ar1 nr1 cr1 av1 nv1 cv1] W fun e w'=>e = .returned (.bool (decide (sameH old now)))∧Below W.heap.size W w'):=Lib.hid fun W hb=>rlike14_any old now ar nr cr av nv cv ar1 nr1 cr1 av1 nv1 cv1 W (H.keep hb) (H1.keep hb) _ (Lib.hid rfl)
 have HCG:Hid (rightH old=true→rightH now=true→∀ W,Below w.heap.size w W→Calls Tryz.prog 60 #[old.val ar nr cr av nv cv,now.val ar1 nr1 cr1 av1 nv1 cv1] W fun e w'=>e = .returned (.tuple #[.string (putGot (changeV old now)).1,.bool (fitsG (putGot (changeV old now)))])∧Below W.heap.size W w'):=Lib.hid fun h1 h2 W hb=>rchange_any old now ar nr cr av nv cv ar1 nr1 cr1 av1 nv1 cv1 W (H.keep hb) (H1.keep hb) (HT.out _ hb) h1 h2 _ (Lib.hid rfl)
 have HIN:Hid (∀ W,Below w.heap.size w W→Calls Tryz.prog 48 #[.slice av nv cv,.slice av1 nv1 cv1] W fun e w'=>e = .returned (.bool (decide (old.voters=now.voters)))∧∃ k,w'=W.drewN k):=Lib.hid fun W hb=>ints_any av av1 nv nv1 cv cv1 old.voters now.voters W (H.voters.keep hb) (H1.voters.keep hb) (by have:=H.nv; omega)
 have HAN:Hid (rightH now=true→∀ W,Below w.heap.size w W→Calls Tryz.prog 61 #[d.val a n c,now.val ar1 nr1 cr1 av1 nv1 cv1] W (RetDk W (anewS d now))):=Lib.hid fun h1 W hb=>ranew_any a n c d now ar1 nr1 cr1 av1 nv1 cv1 W (hd.keep hb) (H1.keep hb) (HT.out _ hb) h1 HC
 have HCL:Hid (∀ (a:Option Addr) (n c:Nat) (d:Dk) (what:Int) (nm more:ByteArray) (W:World),DkAt W a n c d→1≤what∧what≤4→nm.size≤maxLen→more.size≤2097152→Calls Tryz.prog 62 #[d.val a n c,.int .i64 what,.string nm,.string more] W (RetDk W (callS d what nm more))) :=
  Lib.hid fun a n c d what nm more W h1 h2 h3 h4=>rcall_any a n c d what nm more W h1 h2 h3 h4 HC
 have HS:=Lib.hid (sv_start w [.int .i64 old.term,.int .i64 old.vote,.int .i64 old.base,.int .i64 old.bt,.slice ar nr cr,.string old.snap,.slice av nv cv] [.int .i64 now.term,.int .i64 now.vote,.int .i64 now.base,.int .i64 now.bt,.slice ar1 nr1 cr1,.string now.snap,.slice av1 nv1 cv1] hd)
 obtain⟨b1,hb1⟩:∃ b,b=rightD d:=⟨_,rfl⟩
 obtain⟨b2,hb2⟩:∃ b,b=rightH old:=⟨_,rfl⟩
 obtain⟨b3,hb3⟩:∃ b,b=rightH now:=⟨_,rfl⟩
 rw [← hb1,← hb2,← hb3] at hr0
 rw [← hb1] at HRD
 rw [← hb2] at HRO HCG
 rw [← hb3] at HRN HCG HAN
 have HSN:Hid (sameH old now↔(old.base=now.base∧old.bt=now.bt∧old.snap=now.snap∧old.voters=now.voters)∧old.term=now.term∧old.vote=now.vote∧old.recs=now.recs):=Lib.hid (by unfold sameH; constructor <;> (intro h; simp_all))
 obtain⟨G,hG⟩:∃ G,G=putGot (changeV old now):=⟨_,rfl⟩
 rw [← hG] at HCG
 unfold goR alikeH at hr0
 rw [← hG] at hr0
 obtain⟨k,hk⟩:∃ k,k=atL d.files logN:=⟨_,rfl⟩
 rw [← hk] at HAT hr0
 obtain⟨sm,hsm⟩:∃ b,b=decide (sameH old now):=⟨_,rfl⟩
 rw [← hsm] at HLK
 have HSM:=Lib.hid hsm
 have HR:=Lib.hid hr0
 obtain⟨AN,hAN⟩:∃ AN,AN=anewS d now:=⟨_,rfl⟩
 rw [← hAN] at HR HAN
 clear hd H H1 htab hr0 HC hb1 hb2 hb3 hG hk hsm hAN HT
 obtain⟨P1,P2⟩:=G
 obtain⟨tm,vt,bs,bt,rs,sn,vs⟩:=old
 obtain⟨tm1,vt1,bs1,bt1,rs1,sn1,vs1⟩:=now
 obtain⟨rm,fl,lf,dn⟩:=d
 unfold Hd.val Dk.val logN at *
 dsimp only at *
 have q0:=HS.out.box.c0; have q1:=HS.out.box.c1; have q2:=HS.out.box.c2; have q3:=HS.out.box.c3
 go_enter Tryz.func20,Tryz.ntmps20
 go_wp2_with fail
 refine (HRD.out _ HS.out.bel).mono ?_
 rintro e w1 ⟨rfl,hb1⟩
 dsimp only
 have HS1:=Lib.hid (HS.out.keep hb1)
 clear q0 q1 q2 q3 HS hb1 HRD
 cases b1 with
 | false =>
   have HRR:=Lib.hid (show r=(⟨rm,fl,lf,dn⟩,1) from HR.out.trans (if_pos (.inl rfl)))
   have q0:=HS1.out.box.c0; have q1:=HS1.out.box.c1; have q2:=HS1.out.box.c2; have q3:=HS1.out.box.c3
   have o0:=HS1.out.out.c0; have o1:=HS1.out.out.c1; have o2:=HS1.out.out.c2; have o3:=HS1.out.out.c3
   have g0:=HS1.out.out.free 0; have g1:=HS1.out.out.free 1; have g2:=HS1.out.out.free 2; have g3:=HS1.out.out.free 3
   have HF:=Lib.hid (HS1.out.ret HS1.out.at_ 1)
   dsimp only at q0 q1 q2 q3 HF
   go_wp2_with fail
   refine bodyPost_ret (v:=.tuple #[.agg #[.int .i64 rm,.slice a n c,.int .i64 lf,.bool dn],.int .i64 1]) ?_ rfl ?_
   ·rw [results_cell_tmp rfl]; go_simp
   ·rw [HRR.out]; exact HF.out
 | true =>
   have x0:=HS1.out.hd.cell (j:=0) rfl; have x1:=HS1.out.hd.cell (j:=1) rfl; have x2:=HS1.out.hd.cell (j:=2) rfl; have x3:=HS1.out.hd.cell (j:=3) rfl; have x4:=HS1.out.hd.cell (j:=4) rfl; have x5:=HS1.out.hd.cell (j:=5) rfl; have x6:=HS1.out.hd.cell (j:=6) rfl
   go_wp2_with fail
   refine (HRO.out _ HS1.out.bel).mono ?_
   rintro e w2 ⟨rfl,hb2⟩
   dsimp only
   have HS2:=Lib.hid (HS1.out.keep hb2)
   clear x0 x1 x2 x3 x4 x5 x6 HS1 hb2 HRO
   cases b2 with
   | false =>
     have HRR:=Lib.hid (show r=(⟨rm,fl,lf,dn⟩,1) from HR.out.trans (if_pos (.inr (.inl rfl))))
     have q0:=HS2.out.box.c0; have q1:=HS2.out.box.c1; have q2:=HS2.out.box.c2; have q3:=HS2.out.box.c3
     have o0:=HS2.out.out.c0; have o1:=HS2.out.out.c1; have o2:=HS2.out.out.c2; have o3:=HS2.out.out.c3
     have g0:=HS2.out.out.free 0; have g1:=HS2.out.out.free 1; have g2:=HS2.out.out.free 2; have g3:=HS2.out.out.free 3
     have HF:=Lib.hid (HS2.out.ret HS2.out.at_ 1)
     dsimp only at q0 q1 q2 q3 HF
     go_wp2_with fail
     refine bodyPost_ret (v:=.tuple #[.agg #[.int .i64 rm,.slice a n c,.int .i64 lf,.bool dn],.int .i64 1]) ?_ rfl ?_
     ·rw [results_cell_tmp rfl]; go_simp
     ·rw [HRR.out]; exact HF.out
   | true =>
     have y0:=HS2.out.nw.cell (j:=0) rfl; have y1:=HS2.out.nw.cell (j:=1) rfl; have y2:=HS2.out.nw.cell (j:=2) rfl; have y3:=HS2.out.nw.cell (j:=3) rfl; have y4:=HS2.out.nw.cell (j:=4) rfl; have y5:=HS2.out.nw.cell (j:=5) rfl; have y6:=HS2.out.nw.cell (j:=6) rfl
     go_wp2_with fail
     refine (HRN.out _ HS2.out.bel).mono ?_
     rintro e w3 ⟨rfl,hb3⟩
     dsimp only
     have HS3:=Lib.hid (HS2.out.keep hb3)
     clear y0 y1 y2 y3 y4 y5 y6 HS2 hb3 HRN
     cases b3 with
     | false =>
       have HRR:=Lib.hid (show r=(⟨rm,fl,lf,dn⟩,1) from HR.out.trans (if_pos (.inr (.inr rfl))))
       have q0:=HS3.out.box.c0; have q1:=HS3.out.box.c1; have q2:=HS3.out.box.c2; have q3:=HS3.out.box.c3
       have o0:=HS3.out.out.c0; have o1:=HS3.out.out.c1; have o2:=HS3.out.out.c2; have o3:=HS3.out.out.c3
       have g0:=HS3.out.out.free 0; have g1:=HS3.out.out.free 1; have g2:=HS3.out.out.free 2; have g3:=HS3.out.out.free 3
       have HF:=Lib.hid (HS3.out.ret HS3.out.at_ 1)
       dsimp only at q0 q1 q2 q3 HF
       go_wp2_with fail
       refine bodyPost_ret (v:=.tuple #[.agg #[.int .i64 rm,.slice a n c,.int .i64 lf,.bool dn],.int .i64 1]) ?_ rfl ?_
       ·rw [results_cell_tmp rfl]; go_simp
       ·rw [HRR.out]; exact HF.out
     | true =>
       have HR:=Lib.hid (HR.out.trans (if_neg (by simp)))
       have HCG2:=Lib.hid (HCG.out (by trivial) (by trivial))
       have HAN2:=Lib.hid (HAN.out (by trivial))
       clear HCG HAN
       cases dn with
       | true =>
         have HRR:=Lib.hid (show r=(⟨rm,fl,lf,true⟩,132) from HR.out.trans (if_pos rfl))
         have q0:=HS3.out.box.c0; have q1:=HS3.out.box.c1; have q2:=HS3.out.box.c2; have q3:=HS3.out.box.c3
         have o0:=HS3.out.out.c0; have o1:=HS3.out.out.c1; have o2:=HS3.out.out.c2; have o3:=HS3.out.out.c3
         have g0:=HS3.out.out.free 0; have g1:=HS3.out.out.free 1; have g2:=HS3.out.out.free 2; have g3:=HS3.out.out.free 3
         have HF:=Lib.hid (HS3.out.ret HS3.out.at_ 132)
         dsimp only at q0 q1 q2 q3 HF
         go_wp2_with fail
         refine bodyPost_ret (v:=.tuple #[.agg #[.int .i64 rm,.slice a n c,.int .i64 lf,.bool true],.int .i64 132]) ?_ rfl ?_
         ·rw [results_cell_tmp rfl]; go_simp
         ·rw [HRR.out]; exact HF.out
       | false =>
         have HR:=Lib.hid (HR.out.trans (if_neg (by decide)))
         obtain⟨T8,hT8⟩:∃ T8,T8=decide (0≤k):=⟨_,rfl⟩
         have HT8:=Lib.hid hT8
         clear hT8
         have q0:=HS3.out.box.c0; have q1:=HS3.out.box.c1; have q2:=HS3.out.box.c2; have q3:=HS3.out.box.c3
         dsimp only at q0 q1 q2 q3
         go_upto_region 5 with fail
         clear q0 q1 q2 q3
         go_cut [8] (fun v wx=>v = .bool T8∧Hid (SvSt w wx [.int .i64 tm,.int .i64 vt,.int .i64 bs,.int .i64 bt,.slice ar nr cr,.string sn,.slice av nv cv] [.int .i64 tm1,.int .i64 vt1,.int .i64 bs1,.int .i64 bt1,.slice ar1 nr1 cr1,.string sn1,.slice av1 nv1 cv1] ⟨rm,fl,lf,false⟩ a n c))
         case first =>
          have q0:=HS3.out.box.c0; have q1:=HS3.out.box.c1; have q2:=HS3.out.box.c2; have q3:=HS3.out.box.c3
          dsimp only at q0 q1 q2 q3
          go_wp2_with fail
          refine (HAT.out _ HS3.out.bel).mono ?_
          rintro e w4 ⟨rfl,hb4⟩
          have HS4:=Lib.hid (HS3.out.keep hb4)
          clear q0 q1 q2 q3 HS3 hb4 HAT
          by_cases hk:0≤k
          ·obtain rfl:T8=true:=HT8.out.trans (decide_eq_true hk)
           go_wp2_with fail
           go_meet
           exact⟨rfl,HS4⟩
          ·obtain rfl:T8=false:=HT8.out.trans (decide_eq_false hk)
           have hki:k<0:=by omega
           have HK:=Lib.hid hk
           clear hk
           go_wp2_with fail
           go_meet
           exact⟨by rw [decide_eq_false (show ¬ 0≤k by have:=HK.out; omega)],HS4⟩
         obtain⟨rfl,HS4⟩:=hcut
         clear HS3 HAT
         go_upto_region 6 with fail
         go_cut [38] (fun v wx'=>v = .bool (T8&&sm)∧Hid (SvSt w wx' [.int .i64 tm,.int .i64 vt,.int .i64 bs,.int .i64 bt,.slice ar nr cr,.string sn,.slice av nv cv] [.int .i64 tm1,.int .i64 vt1,.int .i64 bs1,.int .i64 bt1,.slice ar1 nr1 cr1,.string sn1,.slice av1 nv1 cv1] ⟨rm,fl,lf,false⟩ a n c))
         case first =>
          cases T8 with
          | false =>
            go_wp2_with fail
            go_meet
            exact⟨rfl,HS4⟩
          | true =>
            have x0:=HS4.out.hd.cell (j:=0) rfl; have x1:=HS4.out.hd.cell (j:=1) rfl; have x2:=HS4.out.hd.cell (j:=2) rfl; have x3:=HS4.out.hd.cell (j:=3) rfl; have x4:=HS4.out.hd.cell (j:=4) rfl; have x5:=HS4.out.hd.cell (j:=5) rfl; have x6:=HS4.out.hd.cell (j:=6) rfl
            have y0:=HS4.out.nw.cell (j:=0) rfl; have y1:=HS4.out.nw.cell (j:=1) rfl; have y2:=HS4.out.nw.cell (j:=2) rfl; have y3:=HS4.out.nw.cell (j:=3) rfl; have y4:=HS4.out.nw.cell (j:=4) rfl; have y5:=HS4.out.nw.cell (j:=5) rfl; have y6:=HS4.out.nw.cell (j:=6) rfl
            go_wp2_with fail
            refine (HLK.out _ HS4.out.bel).mono ?_
            rintro e w5 ⟨rfl,hb5⟩
            have HS5:=Lib.hid (HS4.out.keep hb5)
            clear x0 x1 x2 x3 x4 x5 x6 y0 y1 y2 y3 y4 y5 y6 HS4 hb5 HLK
            dsimp only
            go_wp2_with fail
            go_meet
            exact⟨rfl,HS5⟩
         obtain⟨rfl,HS5⟩:=hcut
         clear HS4 HLK
         obtain⟨B6,hB6⟩:∃ B6,B6=(T8&&sm):=⟨_,rfl⟩
         rw [← hB6]
         have HB6:=Lib.hid hB6
         clear hB6
         cases B6 with
         | true =>
           have HRR:=Lib.hid (show r=(⟨rm,fl,lf,false⟩,0) from HR.out.trans (if_pos ⟨by have h1:=HB6.out.symm; rw [Bool.and_eq_true] at h1; have h2:=of_decide_eq_true (HT8.out.symm.trans h1.1); omega,by have h1:=HB6.out.symm; rw [Bool.and_eq_true] at h1; exact of_decide_eq_true (HSM.out.symm.trans h1.2)⟩))
           have q0:=HS5.out.box.c0; have q1:=HS5.out.box.c1; have q2:=HS5.out.box.c2; have q3:=HS5.out.box.c3
           have o0:=HS5.out.out.c0; have o1:=HS5.out.out.c1; have o2:=HS5.out.out.c2; have o3:=HS5.out.out.c3
           have g0:=HS5.out.out.free 0; have g1:=HS5.out.out.free 1; have g2:=HS5.out.out.free 2; have g3:=HS5.out.out.free 3
           have HF:=Lib.hid (HS5.out.ret HS5.out.at_ 0)
           dsimp only at q0 q1 q2 q3 HF
           go_wp2_with fail
           refine bodyPost_ret (v:=.tuple #[.agg #[.int .i64 rm,.slice a n c,.int .i64 lf,.bool false],.int .i64 0]) ?_ rfl ?_
           ·rw [results_cell_tmp rfl]; go_simp
           ·rw [HRR.out]; exact HF.out
         | false =>
           have HR:=Lib.hid (HR.out.trans (if_neg (fun h=>by
            have h1:=HB6.out
            rw [HT8.out,HSM.out,decide_eq_true (show 0≤k by have:=h.1; omega),decide_eq_true h.2] at h1
            cases h1)))
           have x0:=HS5.out.hd.cell (j:=0) rfl; have x1:=HS5.out.hd.cell (j:=1) rfl; have x2:=HS5.out.hd.cell (j:=2) rfl; have x3:=HS5.out.hd.cell (j:=3) rfl; have x4:=HS5.out.hd.cell (j:=4) rfl; have x5:=HS5.out.hd.cell (j:=5) rfl; have x6:=HS5.out.hd.cell (j:=6) rfl
           have y0:=HS5.out.nw.cell (j:=0) rfl; have y1:=HS5.out.nw.cell (j:=1) rfl; have y2:=HS5.out.nw.cell (j:=2) rfl; have y3:=HS5.out.nw.cell (j:=3) rfl; have y4:=HS5.out.nw.cell (j:=4) rfl; have y5:=HS5.out.nw.cell (j:=5) rfl; have y6:=HS5.out.nw.cell (j:=6) rfl
           go_wp2_with fail
           refine (HCG2.out _ HS5.out.bel).mono ?_
           rintro e w6 ⟨rfl,hb6⟩
           have HS6:=Lib.hid (HS5.out.keep hb6)
           clear x0 x1 x2 x3 x4 x5 x6 y0 y1 y2 y3 y4 y5 y6 HS5 hb6 HCG2
           dsimp only
           obtain⟨ft,hft⟩:∃ ft,ft=fitsG (P1,P2):=⟨_,rfl⟩
           rw [← hft]
           have HFT:=Lib.hid hft
           obtain⟨B,hB⟩:∃ B,B=!(T8&&ft&&decide (bs=bs1∧bt=bt1∧sn=sn1∧vs=vs1)):=⟨_,rfl⟩
           have HB:=Lib.hid hB
           clear hft hB HB6 HSM HSN
           go_upto_region 9 with fail
           go_cut [84] (fun v wx'=>v = .bool B∧Hid (SvSt w wx' [.int .i64 tm,.int .i64 vt,.int .i64 bs,.int .i64 bt,.slice ar nr cr,.string sn,.slice av nv cv] [.int .i64 tm1,.int .i64 vt1,.int .i64 bs1,.int .i64 bt1,.slice ar1 nr1 cr1,.string sn1,.slice av1 nv1 cv1] ⟨rm,fl,lf,false⟩ a n c))
           case first =>
            clear HR HT8 HFT
            cases T8 with
            | false =>
              obtain rfl:B=true:=HB.out
              go_wp2_with fail
              go_meet
              exact⟨rfl,HS6⟩
            | true =>
              cases ft with
              | false =>
                obtain rfl:B=true:=HB.out
                go_wp2_with fail
                go_meet
                exact⟨rfl,HS6⟩
              | true =>
                have HB2:Hid (B=!decide (bs=bs1∧bt=bt1∧sn=sn1∧vs=vs1)):=Lib.hid (by rw [HB.out]; simp)
                clear HB
                have x0:=HS6.out.hd.cell (j:=0) rfl; have x1:=HS6.out.hd.cell (j:=1) rfl; have x2:=HS6.out.hd.cell (j:=2) rfl; have x3:=HS6.out.hd.cell (j:=3) rfl; have x4:=HS6.out.hd.cell (j:=4) rfl; have x5:=HS6.out.hd.cell (j:=5) rfl; have x6:=HS6.out.hd.cell (j:=6) rfl
                have y0:=HS6.out.nw.cell (j:=0) rfl; have y1:=HS6.out.nw.cell (j:=1) rfl; have y2:=HS6.out.nw.cell (j:=2) rfl; have y3:=HS6.out.nw.cell (j:=3) rfl; have y4:=HS6.out.nw.cell (j:=4) rfl; have y5:=HS6.out.nw.cell (j:=5) rfl; have y6:=HS6.out.nw.cell (j:=6) rfl
                by_cases c0:bs=bs1
                case' neg =>
                 obtain rfl:B=true:=HB2.out.trans (by rw [decide_eq_false (fun h=>c0 h.1)]; rfl)
                 have e0:(bs != bs1)=true:=by simpa using c0
                 clear c0 HB2
                 go_wp2_with fail
                 go_meet
                 exact⟨rfl,HS6⟩
                have e0:(bs != bs1)=false:=by simp [c0]
                have C0:=Lib.hid c0
                clear c0
                by_cases c1:bt=bt1
                case' neg =>
                 obtain rfl:B=true:=HB2.out.trans (by rw [decide_eq_false (fun h=>c1 h.2.1)]; rfl)
                 have e1:(bt != bt1)=true:=by simpa using c1
                 clear c1 HB2
                 go_wp2_with fail
                 go_meet
                 exact⟨rfl,HS6⟩
                have e1:(bt != bt1)=false:=by simp [c1]
                have C1:=Lib.hid c1
                clear c1
                by_cases c2:sn=sn1
                case' neg =>
                 obtain rfl:B=true:=HB2.out.trans (by rw [decide_eq_false (fun h=>c2 h.2.2.1)]; rfl)
                 have e2:¬ sn.toList=sn1.toList:=by simpa using (toList_ne c2)
                 clear c2 HB2
                 go_wp2_with fail
                 go_meet
                 exact⟨rfl,HS6⟩
                have HB3:Hid (B=!decide (vs=vs1)):=Lib.hid (by rw [HB2.out]; congr 1; exact decide_eq_decide.2 ⟨fun h=>h.2.2.2,fun h=>⟨C0.out,C1.out,c2,h⟩⟩)
                clear HB2 C0 C1
                have e2:sn.toList=sn1.toList:=by rw [c2]
                clear c2
                go_wp2_with fail
                refine (HIN.out _ HS6.out.bel).mono ?_
                rintro e w7 ⟨rfl,kd,rfl⟩
                dsimp only
                have HS7:=Lib.hid (HS6.out.keep (below_drewN (Below.refl _ _) kd))
                have hbv:(!decide (vs=vs1))=B:=HB3.out.symm
                obtain⟨vb,hvb⟩:∃ vb,vb=decide (vs=vs1):=⟨_,rfl⟩
                rw [← hvb] at hbv ⊢
                subst hbv
                clear x0 x1 x2 x3 x4 x5 x6 y0 y1 y2 y3 y4 y5 y6 HS6 HB3 hvb HIN
                go_wp2_with fail
                go_meet
                exact⟨rfl,HS7⟩
           obtain⟨rfl,HS7⟩:=hcut
           clear HS6 HIN
           cases B with
           | true =>
             have HRR:Hid (r=AN):=Lib.hid (HR.out.trans (if_pos (by
              have h1:=HB.out
              rw [HT8.out,HFT.out] at h1
              unfold fitsG at h1
              by_cases g1:k<0
              ·exact .inl g1
              ·by_cases g2:P2≠0∨65536<P1.size
               ·exact .inr (.inl g2)
               ·refine .inr (.inr fun g3=>?_)
                rw [decide_eq_true (show 0≤k by omega),decide_eq_true (show P2=0 from Classical.byContradiction fun q=>g2 (.inl q)),decide_eq_true (show P1.size≤65536 by omega),decide_eq_true g3] at h1
                cases h1)))
             have q0:=HS7.out.box.c0; have q1:=HS7.out.box.c1; have q2:=HS7.out.box.c2; have q3:=HS7.out.box.c3
             have y0:=HS7.out.nw.cell (j:=0) rfl; have y1:=HS7.out.nw.cell (j:=1) rfl; have y2:=HS7.out.nw.cell (j:=2) rfl; have y3:=HS7.out.nw.cell (j:=3) rfl; have y4:=HS7.out.nw.cell (j:=4) rfl; have y5:=HS7.out.nw.cell (j:=5) rfl; have y6:=HS7.out.nw.cell (j:=6) rfl
             dsimp only at q0 q1 q2 q3
             go_wp2_with fail
             refine (HAN2.out _ HS7.out.bel).mono ?_
             rintro e w8 ⟨a8,n8,c8,rfl,hd8,hb8⟩
             have HS8:=Lib.hid (HS7.out.keep hb8)
             obtain⟨⟨xr,xf,xl,xd⟩,x⟩:=AN
             have HF:=Lib.hid (HS8.out.ret hd8 x)
             unfold Dk.val
             dsimp only at *
             have o0:=HS8.out.out.c0; have o1:=HS8.out.out.c1; have o2:=HS8.out.out.c2; have o3:=HS8.out.out.c3
             have g0:=HS8.out.out.free 0; have g1:=HS8.out.out.free 1; have g2:=HS8.out.out.free 2; have g3:=HS8.out.out.free 3
             clear q0 q1 q2 q3 y0 y1 y2 y3 y4 y5 y6 hd8 hb8 HS7 HAN2
             go_wp2_with fail
             refine bodyPost_ret (v:=.tuple #[.agg #[.int .i64 xr,.slice a8 n8 c8,.int .i64 xl,.bool xd],.int .i64 x]) ?_ rfl ?_
             ·rw [results_cell_tmp rfl]; go_simp
             ·rw [HRR.out]; exact HF.out
           | false =>
             have hal:(0≤k∧(P2=0∧P1.size≤65536))∧(bs=bs1∧bt=bt1∧sn=sn1∧vs=vs1):=by
              have h1:(T8&&ft&&decide (bs=bs1∧bt=bt1∧sn=sn1∧vs=vs1))=true:=by have:=HB.out; simpa using this.symm
              rw [Bool.and_eq_true,Bool.and_eq_true,HT8.out,HFT.out] at h1
              unfold fitsG at h1
              rw [Bool.and_eq_true] at h1
              exact⟨⟨of_decide_eq_true h1.1.1,of_decide_eq_true h1.1.2.1,of_decide_eq_true h1.1.2.2⟩,of_decide_eq_true h1.2⟩
             have HRR:Hid (r=appendS ⟨rm,fl,lf,false⟩ P1):=Lib.hid (HR.out.trans (if_neg (by
              rintro (g1 | g1 | g1)
              ·have:=hal.1.1; omega
              ·rcases g1 with g1 | g1
               ·exact g1 hal.1.2.1
               ·have:=hal.1.2.2; omega
              ·exact g1 hal.2)))
             have hp1:=hal.1.2.2
             have hfz:=frameOf_size P1
             obtain⟨FB,hFB⟩:∃ FB,FB=frameOf P1:=⟨_,rfl⟩
             obtain⟨X,hX⟩:∃ X,X=callS ⟨rm,fl,lf,false⟩ 1 ⟨#[108,111,103]⟩ FB:=⟨_,rfl⟩
             have HX:Hid (r=if X.2=0 then stepsS X.1 [⟨2,⟨#[108,111,103]⟩,noB⟩] else X):=Lib.hid (HRR.out.trans (by
              unfold appendS logN
              rw [← hFB]
              exact stepsS_one (s:=⟨1,⟨#[108,111,103]⟩,FB⟩) hX.symm))
             have hfr:Hid (∀ W,Below wc.heap.size wc W→Calls Tryz.prog 41 #[.string P1] W fun e w'=>e = .returned (.string FB)∧Below W.heap.size W w'):=Lib.hid fun W hb=>by rw [hFB]; exact reFrame_any P1 W hp1
             have hcl:Hid (∀ W,Below wc.heap.size wc W→Calls Tryz.prog 62 #[.agg #[.int .i64 rm,.slice a n c,.int .i64 lf,.bool false],.int .i64 1,.string ⟨#[108,111,103]⟩,.string FB] W (RetDk W X)):=Lib.hid fun W hb=>by rw [hX]; exact HCL.out a n c ⟨rm,fl,lf,false⟩ 1 ⟨#[108,111,103]⟩ FB W (HS7.out.at_.keep hb) (by decide) (by decide) (by rw [hFB,hfz]; omega)
             clear hX HRR hal hp1 hfz hFB HR HB HT8 HFT HAN2
             go_wp2_with fail
             refine wp_region_lastV (regOf Tryz.f20 11) [some 91,some 92,some 93,some 94,some 90,some 95,some 96,some 11,none] 9 (rsvT w.heap.size rm a n c lf false P1 FB X wc) (CBox wc 38 7 8 [.int .i64 0,.slice none 0 0,.int .i64 0,.bool false] (finDk X.1)) rsvD (by kernel_rfl) (by kernel_rfl) (by kernel_rfl) (by kernel_rfl) (by kernel_rfl) (by kernel_rfl) (by kernel_rfl) CBox.start (rsv_steps w.heap.size rm a n c lf false P1 FB X wc HS7.out.box.lt HS7.out.box.c0 HS7.out.box.c1 HS7.out.box.c2 HS7.out.box.c3 hfr.out hcl.out (by kernel_rfl) rfl rfl) ?_
             intro oL hoL eL vs w9 hn hlk hCw9 hT KL hKL
             replace hn:vs.length=9:=hn
             obtain⟨v0,vs1,rfl,hn1⟩:=len_cons hn
             obtain⟨v1,vs2,rfl,hn2⟩:=len_cons hn1
             obtain⟨v2,vs3,rfl,hn3⟩:=len_cons hn2
             obtain⟨v3,vs4,rfl,hn4⟩:=len_cons hn3
             obtain⟨v4,vs5,rfl,hn5⟩:=len_cons hn4
             obtain⟨v5,vs6,rfl,hn6⟩:=len_cons hn5
             obtain⟨v6,vs7,rfl,hn7⟩:=len_cons hn6
             obtain⟨v7,vs8,rfl,hn8⟩:=len_cons hn7
             obtain⟨v8,vs9,rfl,hn9⟩:=len_cons hn8
             obtain rfl:=List.eq_nil_of_length_eq_zero hn9
             clear hn hn1 hn2 hn3 hn4 hn5 hn6 hn7 hn8 hn9
             obtain rfl:v0 = .agg #[.int .i64 rm,.slice a n c,.int .i64 lf,.bool false]:=hT 0 v0 rfl (by kernel_rfl)
             obtain rfl:v1 = .string P1:=hT 1 v1 rfl (by kernel_rfl)
             obtain rfl:v2 = .string FB:=hT 2 v2 rfl (by kernel_rfl)
             obtain rfl:v6 = .int .i64 X.2:=hT 6 v6 rfl (by kernel_rfl)
             obtain⟨p,hpv,hpb,-,hfin⟩:=hCw9.2 v7 (hlk 7 v7 rfl)
             subst hpv
             obtain⟨cs,hbox,a4,n4,c4,rfl,hd4⟩:=hfin v8 (hlk 8 v8 rfl)
             have hBw9:=hCw9.1
             clear hT hfin hlk hCw9
             have hoL1:=opIs hoL (p:=.assign (.tmp 96)) (by kernel_rfl)
             have hgL:=guardIs hoL (p:=none) (by kernel_rfl)
             have hdL:oL.dst=some 12:=by have:=(show ((regOf Tryz.f20 11)[9]?).map (·.dst)=some (some 12) by kernel_rfl); rw [hoL] at this; simpa using this
             rw [if_pos (wanted_free hgL)]
             rw [hdL] at hKL
             simp only [puts,Act.put,List.setIfInBounds_toArray,List.set_cons_succ,List.set_cons_zero] at hKL ⊢
             unfold Oper.wp
             rw [run_assign hoL1 (v:=.int .i64 X.2) rfl _]
             show KL (Act.put _ oL.dst (.int .i64 X.2)) _
             rw [hdL]
             refine hKL _ _ ?_
             clear hKL hoL1 hgL hdL hoL
             have HS9:=Lib.hid (HS7.out.keep hBw9)
             have HX9:Hid (DkBox w9 p X.1 a4 n4 c4):=Lib.hid hbox
             have HD9:=Lib.hid hd4
             clear hbox hd4 hBw9 hfr hcl HS7
             obtain⟨⟨xr,xf,xl,xd⟩,x⟩:=X
             dsimp only at *
             have z0:=HX9.out.c0; have z1:=HX9.out.c1; have z2:=HX9.out.c2; have z3:=HX9.out.c3
             dsimp only at z0 z1 z2 z3
             by_cases hx:x=0
             ·subst hx
              have hrr:=HX.out.trans (if_pos rfl)
              obtain⟨Y,hY⟩:∃ Y,Y=callS ⟨xr,xf,xl,xd⟩ 2 ⟨#[108,111,103]⟩ noB:=⟨_,rfl⟩
              have HY:=Lib.hid (hrr.trans (stepsS_last (s:=⟨2,⟨#[108,111,103]⟩,noB⟩) hY.symm))
              have hcall:=Lib.hid (HCL.out a4 n4 c4 ⟨xr,xf,xl,xd⟩ 2 ⟨#[108,111,103]⟩ noB w9 HD9.out (by decide) (by decide) (by decide))
              rw [← hY] at hcall
              unfold noB at hcall
              clear HX hrr hY
              go_wp2_with fail
              refine hcall.out.mono ?_
              rintro e w10 ⟨a5,n5,c5,rfl,hd5,hb5⟩
              obtain⟨⟨yr,yf,yl,yd⟩,y⟩:=Y
              unfold Dk.val
              dsimp only at *
              have HS10:=Lib.hid (HS9.out.keep hb5)
              have o0:=HS10.out.out.c0; have o1:=HS10.out.out.c1; have o2:=HS10.out.out.c2; have o3:=HS10.out.out.c3
              have g0:=HS10.out.out.free 0; have g1:=HS10.out.out.free 1; have g2:=HS10.out.out.free 2; have g3:=HS10.out.out.free 3
              have HF:=Lib.hid (HS10.out.ret hd5 y)
              clear z0 z1 z2 z3 HX9 HD9 HS9 hcall hb5 hd5
              dsimp only at HF
              go_wp2_with fail
              refine bodyPost_ret (v:=.tuple #[.agg #[.int .i64 yr,.slice a5 n5 c5,.int .i64 yl,.bool yd],.int .i64 y]) ?_ rfl ?_
              ·rw [results_cell_tmp rfl]; go_simp
              ·rw [HY.out]; exact HF.out
             ·have hrr:=Lib.hid (HX.out.trans (if_neg hx))
              have hx0:(x != 0)=true:=by simpa using hx
              have o0:=HS9.out.out.c0; have o1:=HS9.out.out.c1; have o2:=HS9.out.out.c2; have o3:=HS9.out.out.c3
              have g0:=HS9.out.out.free 0; have g1:=HS9.out.out.free 1; have g2:=HS9.out.out.free 2; have g3:=HS9.out.out.free 3
              have HF:=Lib.hid (HS9.out.ret HD9.out x)
              clear HX hx
              dsimp only at HF
              go_wp2_with fail
              refine bodyPost_ret (v:=.tuple #[.agg #[.int .i64 xr,.slice a4 n4 c4,.int .i64 xl,.bool xd],.int .i64 x]) ?_ rfl ?_
              ·rw [results_cell_tmp rfl]; go_simp
              ·rw [hrr.out]; exact HF.out
end Go.Proofs.YtlpgbmaoenncjaaGreatDoor

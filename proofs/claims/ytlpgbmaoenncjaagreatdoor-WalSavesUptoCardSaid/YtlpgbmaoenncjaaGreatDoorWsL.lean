/-
  The region of wal.Save that lays both logs in boxes.
-/
import Derived.Test.YtlpgbmaoenncjaaGreatDoorRegV
import Derived.Test.YtlpgbmaoenncjaaGreatDoorWsOne
import Derived.Test.YtlpgbmaoenncjaaGreatDoorWkA
namespace Go.Proofs.YtlpgbmaoenncjaaGreatDoor
open Go.RowKit
set_option linter.unusedVariables false
set_option maxRecDepth 100000
def CTwo (w1:World) (t:TypeId) (ia ib s:Nat) (zero fin:List Value) (e:Vals) (w:World):Prop :=
 Below w1.heap.size w1 w∧(∀ u,e ia=some u→∃ p,u = .pointer (some ⟨p,0,none⟩)∧w1.heap.size≤p∧(e s=none→w.heap[p]? = some (.cells zero.toArray t (0,0)))∧∀ x,e s=some x→w.heap[p]? = some (.cells fin.toArray t (0,0))) ∧
  ∀ u,e ib=some u→∃ p,u = .pointer (some ⟨p,0,none⟩)∧w1.heap.size≤p∧w.heap[p]? = some (.cells zero.toArray t (0,0))∧∀ q,e ia=some (.pointer (some ⟨q,0,none⟩))→q≠p
section
variable {w1:World}{t:TypeId}{ia ib s:Nat}{zero fin:List Value}{e:Vals}{w w':World}
theorem CTwo.start:CTwo w1 t ia ib s zero fin (fun _=>none) w1.drew:=⟨(Below.refl _ _).drew,(fun u hu=>by cases hu),fun u hu=>by cases hu⟩
theorem CTwo.keep (h:CTwo w1 t ia ib s zero fin e w) (hb:Below w.heap.size w w') {i:Nat}(h1:i≠ia) (h2:i≠ib) (h3:i≠s) (v:Value):CTwo w1 t ia ib s zero fin (e.set i v) w':=by
 unfold CTwo
 rw [Vals.set_other e v (fun e=>h1 e.symm),Vals.set_other e v (fun e=>h2 e.symm),Vals.set_other e v (fun e=>h3 e.symm)]
 refine⟨below_then h.1 hb h.1.size,fun u hu=>?_,fun u hu=>?_⟩
 ·obtain⟨p,rfl,hp,hz,hs⟩:=h.2.1 u hu
  exact⟨p,rfl,hp,fun hn=>(hb.block p (lt_of_block (hz hn))).trans (hz hn),fun x hx=>(hb.block p (lt_of_block (hs x hx))).trans (hs x hx)⟩
 ·obtain⟨p,rfl,hp,hz,hs⟩:=h.2.2 u hu
  exact⟨p,rfl,hp,(hb.block p (lt_of_block hz)).trans hz,hs⟩
theorem CTwo.madeA (h:CTwo w1 t ia ib s zero fin e w) (h1:ia≠ib) (h2:ia≠s) (hs:e s=none):CTwo w1 t ia ib s zero fin (e.set ia (.pointer (some ⟨w.heap.size,0,none⟩))) (w.alloc (.cells zero.toArray t)):=by
 unfold CTwo
 rw [Vals.set_same,Vals.set_other e _ (fun e=>h1 e.symm),Vals.set_other e _ (fun e=>h2 e.symm)]
 refine⟨h.1.alloc h.1.size _,fun u hu=>?_,fun u hu=>?_⟩
 ·obtain rfl:=Option.some.inj hu
  exact⟨w.heap.size,rfl,h.1.size,fun _=>heap_alloc_new w _,fun x hx=>by rw [hs] at hx; cases hx⟩
 ·obtain⟨p,rfl,hp,hz,hq⟩:=h.2.2 u hu
  refine⟨p,rfl,hp,(heap_alloc_old w _ (lt_of_block hz)).trans hz,fun q hq2=>?_⟩
  injection Option.some.inj hq2 with h3
  injection Option.some.inj h3 with h4
  have:=lt_of_block hz
  omega
theorem CTwo.madeB (h:CTwo w1 t ia ib s zero fin e w) (h1:ib≠ia) (h2:ib≠s):CTwo w1 t ia ib s zero fin (e.set ib (.pointer (some ⟨w.heap.size,0,none⟩))) (w.alloc (.cells zero.toArray t)):=by
 unfold CTwo
 rw [Vals.set_same,Vals.set_other e _ (fun e=>h1 e.symm),Vals.set_other e _ (fun e=>h2 e.symm)]
 refine⟨h.1.alloc h.1.size _,fun u hu=>?_,fun u hu=>?_⟩
 ·obtain⟨p,rfl,hp,hz,hs⟩:=h.2.1 u hu
  exact⟨p,rfl,hp,fun hn=>(heap_alloc_old w _ (lt_of_block (hz hn))).trans (hz hn),fun x hx=>(heap_alloc_old w _ (lt_of_block (hs x hx))).trans (hs x hx)⟩
 ·obtain rfl:=Option.some.inj hu
  refine⟨w.heap.size,rfl,h.1.size,heap_alloc_new w _,fun q hq2=>?_⟩
  obtain⟨p,hpe,hp,hz,hs⟩:=h.2.1 _ hq2
  injection hpe with h3
  injection Option.some.inj h3 with h4
  subst h4
  cases hes:e s with
  | none=>have:=lt_of_block (hz hes); omega
  | some x=>have:=lt_of_block (hs x hes); omega
theorem CTwo.stored {a:Nat}{x y:Value}{z:Value}{zz0 zz1 zz2:Value}(h:CTwo w1 t ia ib s [zz0,zz1,zz2] [x,y,z] e w) (h1:s≠ia) (h2:s≠ib) (h3:ia≠ib) (hu:e ia=some (.pointer (some ⟨a,0,none⟩))) (hp:w1.heap.size≤a) (hz:Blk w a t [zz0,zz1,zz2]) :
 CTwo w1 t ia ib s [zz0,zz1,zz2] [x,y,z] (e.set s undef) (((w.setCell ⟨a,0,none⟩ x).setCell ⟨a,1,none⟩ y).setCell ⟨a,2,none⟩ z):=by
 have hg:=grown_trans (grown_trans (grown_setCell w a 0 x) (grown_setCell _ a 1 y)) (grown_setCell _ a 2 z)
 have hb:=((hz.set 0 x).set 1 y).set 2 z
 unfold CTwo
 rw [Vals.set_same,Vals.set_other e _ (fun e=>h1 e.symm),Vals.set_other e _ (fun e=>h2 e.symm)]
 refine⟨h.1.grown hg h.1.size (fun k e=>by cases e; exact hp),fun u hu2=>?_,fun u hu2=>?_⟩
 ·rw [hu] at hu2
  obtain rfl:=Option.some.inj hu2
  exact⟨a,rfl,hp,(fun hn=>by cases hn),fun _ _=>hb⟩
 ·obtain⟨p,rfl,hp2,hz2,hq⟩:=h.2.2 u hu2
  exact⟨p,rfl,hp2,(hg.block p (lt_of_block hz2) (fun e=>hq a hu (Option.some.inj e).symm)).trans hz2,hq⟩
end
def wslT (BO BN:Nat) (bs bt:Int) (ar:Option Addr) (nr cr:Nat) (bs1 bt1:Int) (ar1:Option Addr) (nr1 cr1:Nat) (w1:World):Nat→Value→World→Prop
 | 0,v,w=>v = .pointer (some ⟨BO,2,none⟩)
 | 1,v,w=>v = .agg #[.int .i64 bs,.int .i64 bt,.slice ar nr cr]
 | 2,v,w=>v = .pointer (some ⟨BN,2,none⟩)
 | 3,v,w=>v = .agg #[.int .i64 bs1,.int .i64 bt1,.slice ar1 nr1 cr1]
 | 4,v,w=>True
 | 5,v,w=>True
 | 6,v,w=>True
 | _,_,_=>True
def wslD:Nat→List Nat
 | _=>[]
theorem wsl_keep (BO BN:Nat) (bs bt:Int) (ar:Option Addr) (nr cr:Nat) (bs1 bt1:Int) (ar1:Option Addr) (nr1 cr1:Nat) (w1:World):∀ (j:Nat) (u:Value) (w w':World),Below w.heap.size w w'→(wslT BO BN bs bt ar nr cr bs1 bt1 ar1 nr1 cr1 w1) j u w→(wslT BO BN bs bt ar nr cr bs1 bt1 ar1 nr1 cr1 w1) j u w'
 | 4,u,w,w',hb,h=>trivial
 | 5,u,w,w',hb,h=>trivial
 | 6,u,w,w',hb,h=>trivial
 | 0,u,w,w',hb,h=>h
 | 1,u,w,w',hb,h=>h
 | 2,u,w,w',hb,h=>h
 | 3,u,w,w',hb,h=>h
 | _+7,u,w,w',hb,h=>trivial
theorem wsl_any (BO BN:Nat) (bs bt:Int) (ar:Option Addr) (nr cr:Nat) (bs1 bt1:Int) (ar1:Option Addr) (nr1 cr1:Nat) (w1:World):∀ (j:Nat) (u:Value) (w w':World),(wslT BO BN bs bt ar nr cr bs1 bt1 ar1 nr1 cr1 w1) j u w→(wslT BO BN bs bt ar nr cr bs1 bt1 ar1 nr1 cr1 w1) j u w'
 | 0,u,w,w',h=>h
 | 1,u,w,w',h=>h
 | 2,u,w,w',h=>h
 | 3,u,w,w',h=>h
 | 4,u,w,w',h=>h
 | 5,u,w,w',h=>h
 | 6,u,w,w',h=>h
 | _+7,u,w,w',h=>trivial
set_option maxHeartbeats 4000000 in
theorem wsl_steps (BO BN:Nat) (bs bt:Int) (ar:Option Addr) (nr cr:Nat) (bs1 bt1:Int) (ar1:Option Addr) (nr1 cr1:Nat) (w1:World) (hBO:BO<w1.heap.size) (hBO2:w1.cell? ⟨BO,2,none⟩=some (.int .i64 bs)) (hBO3:w1.cell? ⟨BO,3,none⟩=some (.int .i64 bt)) (hBO4:w1.cell? ⟨BO,4,none⟩=some (.slice ar nr cr)) (hBN:BN<w1.heap.size) (hBN2:w1.cell? ⟨BN,2,none⟩=some (.int .i64 bs1)) (hBN3:w1.cell? ⟨BN,3,none⟩=some (.int .i64 bt1)) (hBN4:w1.cell? ⟨BN,4,none⟩=some (.slice ar1 nr1 cr1)) {a:Act}(hs:a.tmps.size=176) (b4:a.eval (.tmp 4) = .pointer (some ⟨BO,0,none⟩)) (b5:a.eval (.tmp 5) = .pointer (some ⟨BN,0,none⟩)):∀ i o,i<7→(regOf Tryz.f19 5)[i]? = some o→StepOkE Tryz.prog (regOf Tryz.f19 5) a (CTwo w1 40 4 5 6 [.int .i64 0,.int .i64 0,.slice none 0 0] [.int .i64 bs,.int .i64 bt,.slice ar nr cr]) (wslT BO BN bs bt ar nr cr bs1 bt1 ar1 nr1 cr1 w1) wslD i o:=by
 have hz:∀ t,Nat.blt t 176=true→Nat.blt t a.tmps.size=true:=fun t h=>by rw [hs]; exact h
 have hsz:(regOf Tryz.f19 5).size=8:=by kernel_rfl
 intro i o hii ho
 match i,hii with
 | 0,_ =>
   have ho1:=opIs ho (p:=.fieldAddr 42 (.tmp 4) 2) (by kernel_rfl)
   have hg:=guardIs ho (p:=none) (by kernel_rfl)
   intro e A w hA hC hp hup K hk
   have hCB:=hC.1
   replace hk:Next (regOf Tryz.f19 5) (fun w'=>Below w.heap.size w w') (wslT BO BN bs bt ar nr cr bs1 bt1 ar1 nr1 cr1 w1) wslD 0 e A w o.dst K:=hk.next fun v w' hb=>CTwo.keep hC hb (by decide) (by decide) (by decide) v
   replace hC:=Below.refl w.heap.size w
   have x4:A.eval (.tmp 4) = .pointer (some ⟨BO,0,none⟩):=filled_base hA (by kernel_rfl) b4
   have hw:Region.wanted o (yielded (regOf Tryz.f19 5) A.tmps)=true:=wanted_free hg
   refine step_pure (v:=.pointer (some ⟨BO,2,none⟩)) hk hC hw ?_ rfl
   unfold execOp
   simp only [ho1]
   generalize A.eval=ρ at x4 ⊢
   simp [go_sem,x4]
 | 1,_ =>
   have ho1:=opIs ho (p:=.load 40 (.tmp 34)) (by kernel_rfl)
   have hg:=guardIs ho (p:=none) (by kernel_rfl)
   intro e A w hA hC hp hup K hk
   have hCB:=hC.1
   replace hk:Next (regOf Tryz.f19 5) (fun w'=>Below w.heap.size w w') (wslT BO BN bs bt ar nr cr bs1 bt1 ar1 nr1 cr1 w1) wslD 1 e A w o.dst K:=hk.next fun v w' hb=>CTwo.keep hC hb (by decide) (by decide) (by decide) v
   replace hC:=Below.refl w.heap.size w
   have x34:A.eval (.tmp 34) = .pointer (some ⟨BO,2,none⟩):=op_tmp hA hp 34 0 (by kernel_rfl) (by kernel_rfl) (by kernel_rfl) (hz _ rfl)
   have hw:Region.wanted o (yielded (regOf Tryz.f19 5) A.tmps)=true:=wanted_free hg
   have e2:=(World.cell?_of_block (a:=⟨BO,2,none⟩) (hCB.block BO hBO)).trans hBO2
   have e3:=(World.cell?_of_block (a:=⟨BO,3,none⟩) (hCB.block BO hBO)).trans hBO3
   have e4:=(World.cell?_of_block (a:=⟨BO,4,none⟩) (hCB.block BO hBO)).trans hBO4
   refine step_pure (v:=.agg #[.int .i64 bs,.int .i64 bt,.slice ar nr cr]) hk hC hw ?_ rfl
   unfold execOp
   simp only [ho1]
   skip
   generalize A.eval=ρ at x34 ⊢
   simp [go_sem,x34,e2,e3,e4]
 | 2,_ =>
   have ho1:=opIs ho (p:=.fieldAddr 42 (.tmp 5) 2) (by kernel_rfl)
   have hg:=guardIs ho (p:=none) (by kernel_rfl)
   intro e A w hA hC hp hup K hk
   have hCB:=hC.1
   replace hk:Next (regOf Tryz.f19 5) (fun w'=>Below w.heap.size w w') (wslT BO BN bs bt ar nr cr bs1 bt1 ar1 nr1 cr1 w1) wslD 2 e A w o.dst K:=hk.next fun v w' hb=>CTwo.keep hC hb (by decide) (by decide) (by decide) v
   replace hC:=Below.refl w.heap.size w
   have x5:A.eval (.tmp 5) = .pointer (some ⟨BN,0,none⟩):=filled_base hA (by kernel_rfl) b5
   have hw:Region.wanted o (yielded (regOf Tryz.f19 5) A.tmps)=true:=wanted_free hg
   refine step_pure (v:=.pointer (some ⟨BN,2,none⟩)) hk hC hw ?_ rfl
   unfold execOp
   simp only [ho1]
   generalize A.eval=ρ at x5 ⊢
   simp [go_sem,x5]
 | 3,_ =>
   have ho1:=opIs ho (p:=.load 40 (.tmp 36)) (by kernel_rfl)
   have hg:=guardIs ho (p:=none) (by kernel_rfl)
   intro e A w hA hC hp hup K hk
   have hCB:=hC.1
   replace hk:Next (regOf Tryz.f19 5) (fun w'=>Below w.heap.size w w') (wslT BO BN bs bt ar nr cr bs1 bt1 ar1 nr1 cr1 w1) wslD 3 e A w o.dst K:=hk.next fun v w' hb=>CTwo.keep hC hb (by decide) (by decide) (by decide) v
   replace hC:=Below.refl w.heap.size w
   have x36:A.eval (.tmp 36) = .pointer (some ⟨BN,2,none⟩):=op_tmp hA hp 36 2 (by kernel_rfl) (by kernel_rfl) (by kernel_rfl) (hz _ rfl)
   have hw:Region.wanted o (yielded (regOf Tryz.f19 5) A.tmps)=true:=wanted_free hg
   have e2:=(World.cell?_of_block (a:=⟨BN,2,none⟩) (hCB.block BN hBN)).trans hBN2
   have e3:=(World.cell?_of_block (a:=⟨BN,3,none⟩) (hCB.block BN hBN)).trans hBN3
   have e4:=(World.cell?_of_block (a:=⟨BN,4,none⟩) (hCB.block BN hBN)).trans hBN4
   refine step_pure (v:=.agg #[.int .i64 bs1,.int .i64 bt1,.slice ar1 nr1 cr1]) hk hC hw ?_ rfl
   unfold execOp
   simp only [ho1]
   skip
   generalize A.eval=ρ at x36 ⊢
   simp [go_sem,x36,e2,e3,e4]
 | 4,_ =>
   have ho1:=opIs ho (p:=.alloc 40) (by kernel_rfl)
   have hg:=guardIs ho (p:=none) (by kernel_rfl)
   intro e A w hA hC hp hup K hk
   have hw:Region.wanted o (yielded (regOf Tryz.f19 5) A.tmps)=true:=wanted_free hg
   refine step_valueE (v:=.pointer (some ⟨w.heap.size,0,none⟩)) (w':=w.alloc (.cells #[.int .i64 0,.int .i64 0,.slice none 0 0] 40)) hk hw ?_ trivial ?_ ?_
   ·unfold execOp
    simp only [ho1]
    simp [go_sem]
   ·exact CTwo.madeA hC (by decide) (by decide) (hup 6 (by kernel_rfl))
   ·intro j u _ _ _ _ h
    exact wsl_keep BO BN bs bt ar nr cr bs1 bt1 ar1 nr1 cr1 w1 j u w _ ((Below.refl _ w).alloc (Nat.le_refl _) _) h
 | 5,_ =>
   have ho1:=opIs ho (p:=.alloc 40) (by kernel_rfl)
   have hg:=guardIs ho (p:=none) (by kernel_rfl)
   intro e A w hA hC hp hup K hk
   have hw:Region.wanted o (yielded (regOf Tryz.f19 5) A.tmps)=true:=wanted_free hg
   refine step_valueE (v:=.pointer (some ⟨w.heap.size,0,none⟩)) (w':=w.alloc (.cells #[.int .i64 0,.int .i64 0,.slice none 0 0] 40)) hk hw ?_ trivial ?_ ?_
   ·unfold execOp
    simp only [ho1]
    simp [go_sem]
   ·exact CTwo.madeB hC (by decide) (by decide)
   ·intro j u _ _ _ _ h
    exact wsl_keep BO BN bs bt ar nr cr bs1 bt1 ar1 nr1 cr1 w1 j u w _ ((Below.refl _ w).alloc (Nat.le_refl _) _) h
 | 6,_ =>
   have ho1:=opIs ho (p:=.store 40 (.tmp 8) (.tmp 35)) (by kernel_rfl)
   have hg:=guardIs ho (p:=none) (by kernel_rfl)
   intro e A w hA hC hp hup K hk
   have x8:=op_tmp hA hp 8 4 (by kernel_rfl) (by kernel_rfl) (by kernel_rfl) (hz _ rfl)
   have x35:A.eval (.tmp 35) = .agg #[.int .i64 bs,.int .i64 bt,.slice ar nr cr]:=op_tmp hA hp 35 1 (by kernel_rfl) (by kernel_rfl) (by kernel_rfl) (hz _ rfl)
   have hw:Region.wanted o (yielded (regOf Tryz.f19 5) A.tmps)=true:=wanted_free hg
   obtain⟨u,hu,-⟩:=hp 4 (by kernel_rfl)
   obtain⟨p,rfl,hp1,hzb,-⟩:=hC.2.1 u hu
   have xa:A.eval (.tmp 8) = .pointer (some ⟨p,0,none⟩):=filled_tmp hA (by kernel_rfl) hu (by simpa [Nat.blt_eq] using hz 8 rfl)
   have hzero:Blk w p 40 [.int .i64 0,.int .i64 0,.slice none 0 0]:=hzb (hup 6 (by kernel_rfl))
   have z0:=hzero.cell (j:=0) rfl; have z1:=hzero.cell (j:=1) rfl; have z2:=hzero.cell (j:=2) rfl
   have f0:=hzero.free 0; have f1:=hzero.free 1; have f2:=hzero.free 2
   refine step_skipE (w':=(((w.setCell ⟨p,0,none⟩ (.int .i64 bs)).setCell ⟨p,1,none⟩ (.int .i64 bt)).setCell ⟨p,2,none⟩ (.slice ar nr cr))) hk hw ?_ trivial ?_ ?_
   ·clear x8
    unfold execOp
    simp only [ho1]
    generalize A.eval=ρ at x35 xa ⊢
    simp [go_sem,x35,xa,z0,z1,z2,f0,f1,f2]
   ·exact hC.stored (by decide) (by decide) (by decide) hu hp1 hzero
   ·intro j u _ _ _ _ h
    exact wsl_any BO BN bs bt ar nr cr bs1 bt1 ar1 nr1 cr1 w1 j u w _ h
 | _+7,h=>exact absurd h (by omega)
end Go.Proofs.YtlpgbmaoenncjaaGreatDoor

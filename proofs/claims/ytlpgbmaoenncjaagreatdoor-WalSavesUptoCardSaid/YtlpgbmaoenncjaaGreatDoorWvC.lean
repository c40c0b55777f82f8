/-
  The region of the reference's Bytes that writes a state. (Written by wip/mkwv.py.)
-/
import Derived.Test.YtlpgbmaoenncjaaGreatDoorWpA
namespace Go.Proofs.YtlpgbmaoenncjaaGreatDoor
open Go.RowKit
set_option linter.unusedVariables false
def rvmT (BH bx:Nat) (tm vo ba bt:Int) (ar:Option Addr) (nr cr:Nat) (rs:List Rc) (sn:ByteArray) (av:Option Addr) (nv cv:Nat) (va:Option Addr) (N vc:Nat) (vs:List Int) (P1:ByteArray) (P2:Int) (w1:World):Nat→Value→World→Prop
 | 0,v,w=>v = .pointer (some ⟨BH,0,none⟩)
 | 1,v,w=>v = .int .i64 tm
 | 2,v,w=>v = .agg #[.int .i64 1,.int .i64 tm,.string ⟨#[]⟩,.slice none 0 0]
 | 3,v,w=>v = .pointer (some ⟨BH,1,none⟩)
 | 4,v,w=>v = .int .i64 vo
 | 5,v,w=>v = .agg #[.int .i64 1,.int .i64 vo,.string ⟨#[]⟩,.slice none 0 0]
 | 6,v,w=>v = .pointer (some ⟨BH,2,none⟩)
 | 7,v,w=>v = .pointer (some ⟨BH,2,none⟩)
 | 8,v,w=>v = .int .i64 ba
 | 9,v,w=>v = .agg #[.int .i64 1,.int .i64 ba,.string ⟨#[]⟩,.slice none 0 0]
 | 10,v,w=>v = .pointer (some ⟨BH,2,none⟩)
 | 11,v,w=>v = .pointer (some ⟨BH,3,none⟩)
 | 12,v,w=>v = .int .i64 bt
 | 13,v,w=>v = .agg #[.int .i64 1,.int .i64 bt,.string ⟨#[]⟩,.slice none 0 0]
 | 14,v,w=>v = .pointer (some ⟨BH,5,none⟩)
 | 15,v,w=>v = .string sn
 | 16,v,w=>v = .agg #[.int .i64 2,.int .i64 0,.string sn,.slice none 0 0]
 | 17,v,w=>v = .agg #[.int .i64 3,.int .i64 0,.string ⟨#[]⟩,.slice va N vc]
 | 18,v,w=>v = .pointer (some ⟨BH,2,none⟩)
 | 19,v,w=>v = .pointer (some ⟨BH,4,none⟩)
 | 20,v,w=>v = .slice ar nr cr
 | 21,v,w=>∃ ra rc,v = .agg #[.int .i64 3,.int .i64 0,.string ⟨#[]⟩,.slice ra nr rc]∧V.At w (fun p=>w1.heap.size≤p∧p<w.heap.size) (listV (rs.map recV)) [.int .i64 3,.int .i64 0,.string ⟨#[]⟩,.slice ra nr rc]
 | 22,v,w=>∃ ra rc c,v = .slice (some ⟨c,0,none⟩) 7 7∧(V.At w (fun p=>w1.heap.size≤p∧p<w.heap.size) (listV (rs.map recV)) [.int .i64 3,.int .i64 0,.string ⟨#[]⟩,.slice ra nr rc])∧w1.heap.size≤c∧w.heap[c]? = some (.cells #[.int .i64 1,.int .i64 tm,.string ⟨#[]⟩,.slice none 0 0,.int .i64 1,.int .i64 vo,.string ⟨#[]⟩,.slice none 0 0,.int .i64 1,.int .i64 ba,.string ⟨#[]⟩,.slice none 0 0,.int .i64 1,.int .i64 bt,.string ⟨#[]⟩,.slice none 0 0,.int .i64 2,.int .i64 0,.string sn,.slice none 0 0,.int .i64 3,.int .i64 0,.string ⟨#[]⟩,.slice va N vc,.int .i64 3,.int .i64 0,.string ⟨#[]⟩,.slice ra nr rc] 70 (0,0))
 | 23,v,w=>∃ ra rc c,v = .agg #[.int .i64 3,.int .i64 0,.string ⟨#[]⟩,.slice (some ⟨c,0,none⟩) 7 7]∧(V.At w (fun p=>w1.heap.size≤p∧p<w.heap.size) (listV (rs.map recV)) [.int .i64 3,.int .i64 0,.string ⟨#[]⟩,.slice ra nr rc])∧w1.heap.size≤c∧w.heap[c]? = some (.cells #[.int .i64 1,.int .i64 tm,.string ⟨#[]⟩,.slice none 0 0,.int .i64 1,.int .i64 vo,.string ⟨#[]⟩,.slice none 0 0,.int .i64 1,.int .i64 ba,.string ⟨#[]⟩,.slice none 0 0,.int .i64 1,.int .i64 bt,.string ⟨#[]⟩,.slice none 0 0,.int .i64 2,.int .i64 0,.string sn,.slice none 0 0,.int .i64 3,.int .i64 0,.string ⟨#[]⟩,.slice va N vc,.int .i64 3,.int .i64 0,.string ⟨#[]⟩,.slice ra nr rc] 70 (0,0))
 | 24,v,w=>v = .tuple #[.string P1,.int .i64 P2]
 | 25,v,w=>v = .tuple #[.string P1,.int .i64 P2]
 | 26,v,w=>v = .string P1
 | 27,v,w=>v = .int .i64 P2
 | 28,v,w=>v = .string P1
 | 29,v,w=>v = .int .i64 P2
 | _,_,_=>True
def rvmD:Nat→List Nat
 | _=>[]
theorem rvm_keep (BH bx:Nat) (tm vo ba bt:Int) (ar:Option Addr) (nr cr:Nat) (rs:List Rc) (sn:ByteArray) (av:Option Addr) (nv cv:Nat) (va:Option Addr) (N vc:Nat) (vs:List Int) (P1:ByteArray) (P2:Int) (w1:World):∀ (j:Nat) (u:Value) (w w':World),Below w.heap.size w w'→(rvmT BH bx tm vo ba bt ar nr cr rs sn av nv cv va N vc vs P1 P2 w1) j u w→(rvmT BH bx tm vo ba bt ar nr cr rs sn av nv cv va N vc vs P1 P2 w1) j u w'
 | 21,u,w,w',hb,h=>by obtain⟨ra,rc,rfl,h1⟩:=h; exact⟨ra,rc,rfl,V.At.move (fun p hp=>⟨hp.1,Nat.lt_of_lt_of_le hp.2 hb.size⟩) (fun p hp=>hb.block p hp.2) _ _ h1⟩
 | 22,u,w,w',hb,h=>by obtain⟨ra,rc,c,rfl,h1,h2,h3⟩:=h; exact⟨ra,rc,c,rfl,V.At.move (fun p hp=>⟨hp.1,Nat.lt_of_lt_of_le hp.2 hb.size⟩) (fun p hp=>hb.block p hp.2) _ _ h1,h2,(hb.block _ (lt_of_block h3)).trans h3⟩
 | 23,u,w,w',hb,h=>by obtain⟨ra,rc,c,rfl,h1,h2,h3⟩:=h; exact⟨ra,rc,c,rfl,V.At.move (fun p hp=>⟨hp.1,Nat.lt_of_lt_of_le hp.2 hb.size⟩) (fun p hp=>hb.block p hp.2) _ _ h1,h2,(hb.block _ (lt_of_block h3)).trans h3⟩
 | 0,u,w,w',hb,h=>h
 | 1,u,w,w',hb,h=>h
 | 2,u,w,w',hb,h=>h
 | 3,u,w,w',hb,h=>h
 | 4,u,w,w',hb,h=>h
 | 5,u,w,w',hb,h=>h
 | 6,u,w,w',hb,h=>h
 | 7,u,w,w',hb,h=>h
 | 8,u,w,w',hb,h=>h
 | 9,u,w,w',hb,h=>h
 | 10,u,w,w',hb,h=>h
 | 11,u,w,w',hb,h=>h
 | 12,u,w,w',hb,h=>h
 | 13,u,w,w',hb,h=>h
 | 14,u,w,w',hb,h=>h
 | 15,u,w,w',hb,h=>h
 | 16,u,w,w',hb,h=>h
 | 17,u,w,w',hb,h=>h
 | 18,u,w,w',hb,h=>h
 | 19,u,w,w',hb,h=>h
 | 20,u,w,w',hb,h=>h
 | 24,u,w,w',hb,h=>h
 | 25,u,w,w',hb,h=>h
 | 26,u,w,w',hb,h=>h
 | 27,u,w,w',hb,h=>h
 | 28,u,w,w',hb,h=>h
 | 29,u,w,w',hb,h=>h
 | _+30,u,w,w',hb,h=>trivial
set_option maxHeartbeats 4000000 in
theorem rvm_steps (BH bx:Nat) (tm vo ba bt:Int) (ar:Option Addr) (nr cr:Nat) (rs:List Rc) (sn:ByteArray) (av:Option Addr) (nv cv:Nat) (va:Option Addr) (N vc:Nat) (vs:List Int) (P1:ByteArray) (P2:Int) (w1:World) (hBH:BH<w1.heap.size) (hBHo:w1.heap[BH]? = some (.cells #[.int .i64 tm,.int .i64 vo,.int .i64 ba,.int .i64 bt,.slice ar nr cr,.string sn,.slice av nv cv] 42 (0,0))) (hbx:bx<w1.heap.size) (hbxo:w1.heap[bx]? = some (.cells #[.int .i64 3,.int .i64 0,.string ⟨#[]⟩,.slice va N vc] 70 (0,0))) (hrs:rcE.Sl w1 ar nr rs) (hnr:nr≤200) (hvat:V.At w1 (fun p=>p<w1.heap.size) (listV (vs.map numV)) [.int .i64 3,.int .i64 0,.string ⟨#[]⟩,.slice va N vc]) (hput:∀ w cs,Below w1.heap.size w1 w→V.At w (fun p=>p<w.heap.size) (hdV ⟨tm,vo,ba,bt,rs,sn,vs⟩) cs→Calls Tryz.prog 39 #[.agg cs.toArray] w (fun e w'=>e = .returned (.tuple #[.string P1,.int .i64 P2])∧Below w.heap.size w w')) {a:Act}(hs:a.tmps.size=86) (b1:a.eval (.tmp 1) = .pointer (some ⟨BH,0,none⟩)) (b4:a.eval (.tmp 4) = .pointer (some ⟨bx,0,none⟩)):∀ i o,(regOf Tryz.f107 9)[i]? = some o→StepOk Tryz.prog (regOf Tryz.f107 9) a (fun w=>Below w1.heap.size w1 w) (rvmT BH bx tm vo ba bt ar nr cr rs sn av nv cv va N vc vs P1 P2 w1) rvmD i o:=by
 have hz:∀ t,Nat.blt t 86=true→Nat.blt t a.tmps.size=true:=fun t h=>by rw [hs]; exact h
 have hsz:(regOf Tryz.f107 9).size=30:=by kernel_rfl
 refine of_index 30 hsz ?_
 intro i hii o ho
 match i,hii with
 | 0,_ =>
   have ho1:=opIs ho (p:=.fieldAddr 42 (.tmp 1) 0) (by kernel_rfl)
   have hg:=guardIs ho (p:=none) (by kernel_rfl)
   intro e A w hA hC hp K hk
   have x1:A.eval (.tmp 1) = .pointer (some ⟨BH,0,none⟩):=filled_base hA (by kernel_rfl) b1
   have hw:Region.wanted o (yielded (regOf Tryz.f107 9) A.tmps)=true:=wanted_free hg
   refine step_pure (v:=.pointer (some ⟨BH,0,none⟩)) hk hC hw ?_ rfl
   unfold execOp
   simp only [ho1]
   generalize A.eval=ρ at x1 ⊢
   simp [go_sem,x1]
 | 1,_ =>
   have ho1:=opIs ho (p:=.load 3 (.tmp 56)) (by kernel_rfl)
   have hg:=guardIs ho (p:=none) (by kernel_rfl)
   intro e A w hA hC hp K hk
   have x56:A.eval (.tmp 56) = .pointer (some ⟨BH,0,none⟩):=op_tmp hA hp 56 0 (by kernel_rfl) (by kernel_rfl) (by kernel_rfl) (hz _ rfl)
   have hw:Region.wanted o (yielded (regOf Tryz.f107 9) A.tmps)=true:=wanted_free hg
   have e1:=(Lib.cell_of_heap ((hC.block BH hBH).trans hBHo) 0).trans (show _=some (Value.int .i64 tm) from rfl)
   refine step_pure (v:=.int .i64 tm) hk hC hw ?_ rfl
   unfold execOp
   simp only [ho1]
   generalize A.eval=ρ at x56 ⊢
   simp [go_sem,x56,e1]
 | 2,_ =>
   have ho1:=opIs ho (p:=.call { callee:=(.value (.func 108)),args:=#[(.tmp 57)],argTypes:=#[3] }) (by kernel_rfl)
   have hg:=guardIs ho (p:=none) (by kernel_rfl)
   intro e A w hA hC hp K hk
   have x57:A.eval (.tmp 57) = .int .i64 tm:=op_tmp hA hp 57 1 (by kernel_rfl) (by kernel_rfl) (by kernel_rfl) (hz _ rfl)
   have hw:Region.wanted o (yielded (regOf Tryz.f107 9) A.tmps)=true:=wanted_free hg
   refine step_call (f:=108) (args:=#[.int .i64 tm]) hk hw ?_ ?_
   ·unfold execOp
    simp only [ho1]
    have xf:∀ f,A.eval (.func f) = .func (.func f) #[] #[]:=fun _=>rfl
    generalize A.eval=ρ at x57 xf ⊢
    simp [go_sem,xf,x57]
   ·refine (rnum14_any tm w).mono ?_
    rintro en w' ⟨rfl,hb'⟩
    exact⟨_,rfl,rfl,below_then hC hb' hC.size,fun j u _ _ _ _ h=>rvm_keep BH bx tm vo ba bt ar nr cr rs sn av nv cv va N vc vs P1 P2 w1 j u w _ hb' h⟩
 | 3,_ =>
   have ho1:=opIs ho (p:=.fieldAddr 42 (.tmp 1) 1) (by kernel_rfl)
   have hg:=guardIs ho (p:=none) (by kernel_rfl)
   intro e A w hA hC hp K hk
   have x1:A.eval (.tmp 1) = .pointer (some ⟨BH,0,none⟩):=filled_base hA (by kernel_rfl) b1
   have hw:Region.wanted o (yielded (regOf Tryz.f107 9) A.tmps)=true:=wanted_free hg
   refine step_pure (v:=.pointer (some ⟨BH,1,none⟩)) hk hC hw ?_ rfl
   unfold execOp
   simp only [ho1]
   generalize A.eval=ρ at x1 ⊢
   simp [go_sem,x1]
 | 4,_ =>
   have ho1:=opIs ho (p:=.load 3 (.tmp 59)) (by kernel_rfl)
   have hg:=guardIs ho (p:=none) (by kernel_rfl)
   intro e A w hA hC hp K hk
   have x59:A.eval (.tmp 59) = .pointer (some ⟨BH,1,none⟩):=op_tmp hA hp 59 3 (by kernel_rfl) (by kernel_rfl) (by kernel_rfl) (hz _ rfl)
   have hw:Region.wanted o (yielded (regOf Tryz.f107 9) A.tmps)=true:=wanted_free hg
   have e1:=(Lib.cell_of_heap ((hC.block BH hBH).trans hBHo) 1).trans (show _=some (Value.int .i64 vo) from rfl)
   refine step_pure (v:=.int .i64 vo) hk hC hw ?_ rfl
   unfold execOp
   simp only [ho1]
   generalize A.eval=ρ at x59 ⊢
   simp [go_sem,x59,e1]
 | 5,_ =>
   have ho1:=opIs ho (p:=.call { callee:=(.value (.func 108)),args:=#[(.tmp 60)],argTypes:=#[3] }) (by kernel_rfl)
   have hg:=guardIs ho (p:=none) (by kernel_rfl)
   intro e A w hA hC hp K hk
   have x60:A.eval (.tmp 60) = .int .i64 vo:=op_tmp hA hp 60 4 (by kernel_rfl) (by kernel_rfl) (by kernel_rfl) (hz _ rfl)
   have hw:Region.wanted o (yielded (regOf Tryz.f107 9) A.tmps)=true:=wanted_free hg
   refine step_call (f:=108) (args:=#[.int .i64 vo]) hk hw ?_ ?_
   ·unfold execOp
    simp only [ho1]
    have xf:∀ f,A.eval (.func f) = .func (.func f) #[] #[]:=fun _=>rfl
    generalize A.eval=ρ at x60 xf ⊢
    simp [go_sem,xf,x60]
   ·refine (rnum14_any vo w).mono ?_
    rintro en w' ⟨rfl,hb'⟩
    exact⟨_,rfl,rfl,below_then hC hb' hC.size,fun j u _ _ _ _ h=>rvm_keep BH bx tm vo ba bt ar nr cr rs sn av nv cv va N vc vs P1 P2 w1 j u w _ hb' h⟩
 | 6,_ =>
   have ho1:=opIs ho (p:=.fieldAddr 42 (.tmp 1) 2) (by kernel_rfl)
   have hg:=guardIs ho (p:=none) (by kernel_rfl)
   intro e A w hA hC hp K hk
   have x1:A.eval (.tmp 1) = .pointer (some ⟨BH,0,none⟩):=filled_base hA (by kernel_rfl) b1
   have hw:Region.wanted o (yielded (regOf Tryz.f107 9) A.tmps)=true:=wanted_free hg
   refine step_pure (v:=.pointer (some ⟨BH,2,none⟩)) hk hC hw ?_ rfl
   unfold execOp
   simp only [ho1]
   generalize A.eval=ρ at x1 ⊢
   simp [go_sem,x1]
 | 7,_ =>
   have ho1:=opIs ho (p:=.fieldAddr 40 (.tmp 62) 0) (by kernel_rfl)
   have hg:=guardIs ho (p:=none) (by kernel_rfl)
   intro e A w hA hC hp K hk
   have x62:A.eval (.tmp 62) = .pointer (some ⟨BH,2,none⟩):=op_tmp hA hp 62 6 (by kernel_rfl) (by kernel_rfl) (by kernel_rfl) (hz _ rfl)
   have hw:Region.wanted o (yielded (regOf Tryz.f107 9) A.tmps)=true:=wanted_free hg
   refine step_pure (v:=.pointer (some ⟨BH,2,none⟩)) hk hC hw ?_ rfl
   unfold execOp
   simp only [ho1]
   generalize A.eval=ρ at x62 ⊢
   simp [go_sem,x62]
 | 8,_ =>
   have ho1:=opIs ho (p:=.load 3 (.tmp 63)) (by kernel_rfl)
   have hg:=guardIs ho (p:=none) (by kernel_rfl)
   intro e A w hA hC hp K hk
   have x63:A.eval (.tmp 63) = .pointer (some ⟨BH,2,none⟩):=op_tmp hA hp 63 7 (by kernel_rfl) (by kernel_rfl) (by kernel_rfl) (hz _ rfl)
   have hw:Region.wanted o (yielded (regOf Tryz.f107 9) A.tmps)=true:=wanted_free hg
   have e1:=(Lib.cell_of_heap ((hC.block BH hBH).trans hBHo) 2).trans (show _=some (Value.int .i64 ba) from rfl)
   refine step_pure (v:=.int .i64 ba) hk hC hw ?_ rfl
   unfold execOp
   simp only [ho1]
   generalize A.eval=ρ at x63 ⊢
   simp [go_sem,x63,e1]
 | 9,_ =>
   have ho1:=opIs ho (p:=.call { callee:=(.value (.func 108)),args:=#[(.tmp 64)],argTypes:=#[3] }) (by kernel_rfl)
   have hg:=guardIs ho (p:=none) (by kernel_rfl)
   intro e A w hA hC hp K hk
   have x64:A.eval (.tmp 64) = .int .i64 ba:=op_tmp hA hp 64 8 (by kernel_rfl) (by kernel_rfl) (by kernel_rfl) (hz _ rfl)
   have hw:Region.wanted o (yielded (regOf Tryz.f107 9) A.tmps)=true:=wanted_free hg
   refine step_call (f:=108) (args:=#[.int .i64 ba]) hk hw ?_ ?_
   ·unfold execOp
    simp only [ho1]
    have xf:∀ f,A.eval (.func f) = .func (.func f) #[] #[]:=fun _=>rfl
    generalize A.eval=ρ at x64 xf ⊢
    simp [go_sem,xf,x64]
   ·refine (rnum14_any ba w).mono ?_
    rintro en w' ⟨rfl,hb'⟩
    exact⟨_,rfl,rfl,below_then hC hb' hC.size,fun j u _ _ _ _ h=>rvm_keep BH bx tm vo ba bt ar nr cr rs sn av nv cv va N vc vs P1 P2 w1 j u w _ hb' h⟩
 | 10,_ =>
   have ho1:=opIs ho (p:=.fieldAddr 42 (.tmp 1) 2) (by kernel_rfl)
   have hg:=guardIs ho (p:=none) (by kernel_rfl)
   intro e A w hA hC hp K hk
   have x1:A.eval (.tmp 1) = .pointer (some ⟨BH,0,none⟩):=filled_base hA (by kernel_rfl) b1
   have hw:Region.wanted o (yielded (regOf Tryz.f107 9) A.tmps)=true:=wanted_free hg
   refine step_pure (v:=.pointer (some ⟨BH,2,none⟩)) hk hC hw ?_ rfl
   unfold execOp
   simp only [ho1]
   generalize A.eval=ρ at x1 ⊢
   simp [go_sem,x1]
 | 11,_ =>
   have ho1:=opIs ho (p:=.fieldAddr 40 (.tmp 66) 1) (by kernel_rfl)
   have hg:=guardIs ho (p:=none) (by kernel_rfl)
   intro e A w hA hC hp K hk
   have x66:A.eval (.tmp 66) = .pointer (some ⟨BH,2,none⟩):=op_tmp hA hp 66 10 (by kernel_rfl) (by kernel_rfl) (by kernel_rfl) (hz _ rfl)
   have hw:Region.wanted o (yielded (regOf Tryz.f107 9) A.tmps)=true:=wanted_free hg
   refine step_pure (v:=.pointer (some ⟨BH,3,none⟩)) hk hC hw ?_ rfl
   unfold execOp
   simp only [ho1]
   generalize A.eval=ρ at x66 ⊢
   simp [go_sem,x66]
 | 12,_ =>
   have ho1:=opIs ho (p:=.load 3 (.tmp 67)) (by kernel_rfl)
   have hg:=guardIs ho (p:=none) (by kernel_rfl)
   intro e A w hA hC hp K hk
   have x67:A.eval (.tmp 67) = .pointer (some ⟨BH,3,none⟩):=op_tmp hA hp 67 11 (by kernel_rfl) (by kernel_rfl) (by kernel_rfl) (hz _ rfl)
   have hw:Region.wanted o (yielded (regOf Tryz.f107 9) A.tmps)=true:=wanted_free hg
   have e1:=(Lib.cell_of_heap ((hC.block BH hBH).trans hBHo) 3).trans (show _=some (Value.int .i64 bt) from rfl)
   refine step_pure (v:=.int .i64 bt) hk hC hw ?_ rfl
   unfold execOp
   simp only [ho1]
   generalize A.eval=ρ at x67 ⊢
   simp [go_sem,x67,e1]
 | 13,_ =>
   have ho1:=opIs ho (p:=.call { callee:=(.value (.func 108)),args:=#[(.tmp 68)],argTypes:=#[3] }) (by kernel_rfl)
   have hg:=guardIs ho (p:=none) (by kernel_rfl)
   intro e A w hA hC hp K hk
   have x68:A.eval (.tmp 68) = .int .i64 bt:=op_tmp hA hp 68 12 (by kernel_rfl) (by kernel_rfl) (by kernel_rfl) (hz _ rfl)
   have hw:Region.wanted o (yielded (regOf Tryz.f107 9) A.tmps)=true:=wanted_free hg
   refine step_call (f:=108) (args:=#[.int .i64 bt]) hk hw ?_ ?_
   ·unfold execOp
    simp only [ho1]
    have xf:∀ f,A.eval (.func f) = .func (.func f) #[] #[]:=fun _=>rfl
    generalize A.eval=ρ at x68 xf ⊢
    simp [go_sem,xf,x68]
   ·refine (rnum14_any bt w).mono ?_
    rintro en w' ⟨rfl,hb'⟩
    exact⟨_,rfl,rfl,below_then hC hb' hC.size,fun j u _ _ _ _ h=>rvm_keep BH bx tm vo ba bt ar nr cr rs sn av nv cv va N vc vs P1 P2 w1 j u w _ hb' h⟩
 | 14,_ =>
   have ho1:=opIs ho (p:=.fieldAddr 42 (.tmp 1) 3) (by kernel_rfl)
   have hg:=guardIs ho (p:=none) (by kernel_rfl)
   intro e A w hA hC hp K hk
   have x1:A.eval (.tmp 1) = .pointer (some ⟨BH,0,none⟩):=filled_base hA (by kernel_rfl) b1
   have hw:Region.wanted o (yielded (regOf Tryz.f107 9) A.tmps)=true:=wanted_free hg
   refine step_pure (v:=.pointer (some ⟨BH,5,none⟩)) hk hC hw ?_ rfl
   unfold execOp
   simp only [ho1]
   generalize A.eval=ρ at x1 ⊢
   simp [go_sem,x1]
 | 15,_ =>
   have ho1:=opIs ho (p:=.load 9 (.tmp 70)) (by kernel_rfl)
   have hg:=guardIs ho (p:=none) (by kernel_rfl)
   intro e A w hA hC hp K hk
   have x70:A.eval (.tmp 70) = .pointer (some ⟨BH,5,none⟩):=op_tmp hA hp 70 14 (by kernel_rfl) (by kernel_rfl) (by kernel_rfl) (hz _ rfl)
   have hw:Region.wanted o (yielded (regOf Tryz.f107 9) A.tmps)=true:=wanted_free hg
   have e1:=(Lib.cell_of_heap ((hC.block BH hBH).trans hBHo) 5).trans (show _=some (Value.string sn) from rfl)
   refine step_pure (v:=.string sn) hk hC hw ?_ rfl
   unfold execOp
   simp only [ho1]
   generalize A.eval=ρ at x70 ⊢
   simp [go_sem,x70,e1]
 | 16,_ =>
   have ho1:=opIs ho (p:=.build 70 #[(0,(.const (.int .i64 2))),(2,(.tmp 71))]) (by kernel_rfl)
   have hg:=guardIs ho (p:=none) (by kernel_rfl)
   intro e A w hA hC hp K hk
   have x71:A.eval (.tmp 71) = .string sn:=op_tmp hA hp 71 15 (by kernel_rfl) (by kernel_rfl) (by kernel_rfl) (hz _ rfl)
   have hw:Region.wanted o (yielded (regOf Tryz.f107 9) A.tmps)=true:=wanted_free hg
   refine step_pure (v:=.agg #[.int .i64 2,.int .i64 0,.string sn,.slice none 0 0]) hk hC hw ?_ rfl
   unfold execOp
   simp only [ho1]
   have xc:∀ v,A.eval (.const v)=v:=fun _=>rfl
   generalize A.eval=ρ at x71 xc ⊢
   simp [go_sem,x71,xc]
 | 17,_ =>
   have ho1:=opIs ho (p:=.load 70 (.tmp 4)) (by kernel_rfl)
   have hg:=guardIs ho (p:=none) (by kernel_rfl)
   intro e A w hA hC hp K hk
   have x4:A.eval (.tmp 4) = .pointer (some ⟨bx,0,none⟩):=filled_base hA (by kernel_rfl) b4
   have hw:Region.wanted o (yielded (regOf Tryz.f107 9) A.tmps)=true:=wanted_free hg
   have e0:=(Lib.cell_of_heap ((hC.block bx hbx).trans hbxo) 0).trans (show _=some (Value.int .i64 3) from rfl)
   have e1:=(Lib.cell_of_heap ((hC.block bx hbx).trans hbxo) 1).trans (show _=some (Value.int .i64 0) from rfl)
   have e2:=(Lib.cell_of_heap ((hC.block bx hbx).trans hbxo) 2).trans (show _=some (Value.string ⟨#[]⟩) from rfl)
   have e3:=(Lib.cell_of_heap ((hC.block bx hbx).trans hbxo) 3).trans (show _=some (Value.slice va N vc) from rfl)
   refine step_pure (v:=.agg #[.int .i64 3,.int .i64 0,.string ⟨#[]⟩,.slice va N vc]) hk hC hw ?_ rfl
   unfold execOp
   simp only [ho1]
   generalize A.eval=ρ at x4 ⊢
   simp [go_sem,x4,e0,e1,e2,e3]
 | 18,_ =>
   have ho1:=opIs ho (p:=.fieldAddr 42 (.tmp 1) 2) (by kernel_rfl)
   have hg:=guardIs ho (p:=none) (by kernel_rfl)
   intro e A w hA hC hp K hk
   have x1:A.eval (.tmp 1) = .pointer (some ⟨BH,0,none⟩):=filled_base hA (by kernel_rfl) b1
   have hw:Region.wanted o (yielded (regOf Tryz.f107 9) A.tmps)=true:=wanted_free hg
   refine step_pure (v:=.pointer (some ⟨BH,2,none⟩)) hk hC hw ?_ rfl
   unfold execOp
   simp only [ho1]
   generalize A.eval=ρ at x1 ⊢
   simp [go_sem,x1]
 | 19,_ =>
   have ho1:=opIs ho (p:=.fieldAddr 40 (.tmp 74) 2) (by kernel_rfl)
   have hg:=guardIs ho (p:=none) (by kernel_rfl)
   intro e A w hA hC hp K hk
   have x74:A.eval (.tmp 74) = .pointer (some ⟨BH,2,none⟩):=op_tmp hA hp 74 18 (by kernel_rfl) (by kernel_rfl) (by kernel_rfl) (hz _ rfl)
   have hw:Region.wanted o (yielded (regOf Tryz.f107 9) A.tmps)=true:=wanted_free hg
   refine step_pure (v:=.pointer (some ⟨BH,4,none⟩)) hk hC hw ?_ rfl
   unfold execOp
   simp only [ho1]
   generalize A.eval=ρ at x74 ⊢
   simp [go_sem,x74]
 | 20,_ =>
   have ho1:=opIs ho (p:=.load 22 (.tmp 75)) (by kernel_rfl)
   have hg:=guardIs ho (p:=none) (by kernel_rfl)
   intro e A w hA hC hp K hk
   have x75:A.eval (.tmp 75) = .pointer (some ⟨BH,4,none⟩):=op_tmp hA hp 75 19 (by kernel_rfl) (by kernel_rfl) (by kernel_rfl) (hz _ rfl)
   have hw:Region.wanted o (yielded (regOf Tryz.f107 9) A.tmps)=true:=wanted_free hg
   have e1:=(Lib.cell_of_heap ((hC.block BH hBH).trans hBHo) 4).trans (show _=some (Value.slice ar nr cr) from rfl)
   refine step_pure (v:=.slice ar nr cr) hk hC hw ?_ rfl
   unfold execOp
   simp only [ho1]
   generalize A.eval=ρ at x75 ⊢
   simp [go_sem,x75,e1]
 | 21,_ =>
   have ho1:=opIs ho (p:=.call { callee:=(.value (.func 109)),args:=#[(.tmp 76)],argTypes:=#[22] }) (by kernel_rfl)
   have hg:=guardIs ho (p:=none) (by kernel_rfl)
   intro e A w hA hC hp K hk
   have x76:A.eval (.tmp 76) = .slice ar nr cr:=op_tmp hA hp 76 20 (by kernel_rfl) (by kernel_rfl) (by kernel_rfl) (hz _ rfl)
   have hw:Region.wanted o (yielded (regOf Tryz.f107 9) A.tmps)=true:=wanted_free hg
   refine step_call (f:=109) (args:=#[.slice ar nr cr]) hk hw ?_ ?_
   ·unfold execOp
    simp only [ho1]
    have xf:∀ f,A.eval (.func f) = .func (.func f) #[] #[]:=fun _=>rfl
    generalize A.eval=ρ at x76 xf ⊢
    simp [go_sem,xf,x76]
   ·refine (rrecs_any ar nr cr rs w (hrs.keep hC) hnr).mono ?_
    rintro en w' ⟨ra,rc,rfl,hat,hb'⟩
    exact⟨_,rfl,⟨ra,rc,rfl,V.At.move (fun p hp=>⟨Nat.le_trans hC.size hp.1,hp.2⟩) (fun _ _=>rfl) _ _ hat⟩,below_then hC hb' hC.size,fun j u _ _ _ _ h=>rvm_keep BH bx tm vo ba bt ar nr cr rs sn av nv cv va N vc vs P1 P2 w1 j u w _ hb' h⟩
 | 22,_ =>
   have ho1:=opIs ho (p:=.buildSlice 68 7 #[(0,(.tmp 58)),(1,(.tmp 61)),(2,(.tmp 65)),(3,(.tmp 69)),(4,(.tmp 72)),(5,(.tmp 73)),(6,(.tmp 77))]) (by kernel_rfl)
   have hg:=guardIs ho (p:=none) (by kernel_rfl)
   intro e A w hA hC hp K hk
   have x58:A.eval (.tmp 58) = .agg #[.int .i64 1,.int .i64 tm,.string ⟨#[]⟩,.slice none 0 0]:=op_tmp hA hp 58 2 (by kernel_rfl) (by kernel_rfl) (by kernel_rfl) (hz _ rfl)
   have x61:A.eval (.tmp 61) = .agg #[.int .i64 1,.int .i64 vo,.string ⟨#[]⟩,.slice none 0 0]:=op_tmp hA hp 61 5 (by kernel_rfl) (by kernel_rfl) (by kernel_rfl) (hz _ rfl)
   have x65:A.eval (.tmp 65) = .agg #[.int .i64 1,.int .i64 ba,.string ⟨#[]⟩,.slice none 0 0]:=op_tmp hA hp 65 9 (by kernel_rfl) (by kernel_rfl) (by kernel_rfl) (hz _ rfl)
   have x69:A.eval (.tmp 69) = .agg #[.int .i64 1,.int .i64 bt,.string ⟨#[]⟩,.slice none 0 0]:=op_tmp hA hp 69 13 (by kernel_rfl) (by kernel_rfl) (by kernel_rfl) (hz _ rfl)
   have x72:A.eval (.tmp 72) = .agg #[.int .i64 2,.int .i64 0,.string sn,.slice none 0 0]:=op_tmp hA hp 72 16 (by kernel_rfl) (by kernel_rfl) (by kernel_rfl) (hz _ rfl)
   have x73:A.eval (.tmp 73) = .agg #[.int .i64 3,.int .i64 0,.string ⟨#[]⟩,.slice va N vc]:=op_tmp hA hp 73 17 (by kernel_rfl) (by kernel_rfl) (by kernel_rfl) (hz _ rfl)
   have x77:=op_tmp hA hp 77 21 (by kernel_rfl) (by kernel_rfl) (by kernel_rfl) (hz _ rfl)
   have hw:Region.wanted o (yielded (regOf Tryz.f107 9) A.tmps)=true:=wanted_free hg
   obtain⟨ra,rc,x77,h1⟩:=x77
   refine step_value (v:=.slice (some ⟨w.heap.size,0,none⟩) 7 7) (w':=w.alloc (.cells #[.int .i64 1,.int .i64 tm,.string ⟨#[]⟩,.slice none 0 0,.int .i64 1,.int .i64 vo,.string ⟨#[]⟩,.slice none 0 0,.int .i64 1,.int .i64 ba,.string ⟨#[]⟩,.slice none 0 0,.int .i64 1,.int .i64 bt,.string ⟨#[]⟩,.slice none 0 0,.int .i64 2,.int .i64 0,.string sn,.slice none 0 0,.int .i64 3,.int .i64 0,.string ⟨#[]⟩,.slice va N vc,.int .i64 3,.int .i64 0,.string ⟨#[]⟩,.slice ra nr rc] 70)) hk hw ?_ ?_ ?_ ?_
   ·unfold execOp
    simp only [ho1]
    generalize A.eval=ρ at x58 x61 x65 x69 x72 x73 x77 ⊢
    simp [go_sem,x58,x61,x65,x69,x72,x73,x77]
   ·exact⟨ra,rc,w.heap.size,rfl,V.At.move (fun p hp=>⟨hp.1,Nat.lt_of_lt_of_le hp.2 (World.grownBy_alloc w _ none).size⟩) (fun p hp=>heap_alloc_old w _ hp.2) _ _ h1,hC.size,heap_alloc_new w _⟩
   ·exact hC.alloc hC.size _
   ·intro j u _ _ _ _ h
    exact rvm_keep BH bx tm vo ba bt ar nr cr rs sn av nv cv va N vc vs P1 P2 w1 j u w _ ((Below.refl _ w).alloc (Nat.le_refl _) _) h
 | 23,_ =>
   have ho1:=opIs ho (p:=.build 70 #[(0,(.const (.int .i64 3))),(3,(.tmp 78))]) (by kernel_rfl)
   have hg:=guardIs ho (p:=none) (by kernel_rfl)
   intro e A w hA hC hp K hk
   have x78:=op_tmp hA hp 78 22 (by kernel_rfl) (by kernel_rfl) (by kernel_rfl) (hz _ rfl)
   have hw:Region.wanted o (yielded (regOf Tryz.f107 9) A.tmps)=true:=wanted_free hg
   obtain⟨ra,rc,c,x78,h1,h2,h3⟩:=x78
   refine step_pure (v:=.agg #[.int .i64 3,.int .i64 0,.string ⟨#[]⟩,.slice (some ⟨c,0,none⟩) 7 7]) hk hC hw ?_ ⟨ra,rc,c,rfl,h1,h2,h3⟩
   unfold execOp
   simp only [ho1]
   have xc:∀ v,A.eval (.const v)=v:=fun _=>rfl
   generalize A.eval=ρ at x78 xc ⊢
   simp [go_sem,x78,xc]
 | 24,_ =>
   have ho1:=opIs ho (p:=.call { callee:=(.value (.func 39)),args:=#[(.tmp 79)],argTypes:=#[70] }) (by kernel_rfl)
   have hg:=guardIs ho (p:=none) (by kernel_rfl)
   intro e A w hA hC hp K hk
   have x79:=op_tmp hA hp 79 23 (by kernel_rfl) (by kernel_rfl) (by kernel_rfl) (hz _ rfl)
   have hw:Region.wanted o (yielded (regOf Tryz.f107 9) A.tmps)=true:=wanted_free hg
   obtain⟨ra,rc,c,x79,h1,h2,h3⟩:=x79
   have hat:V.At w (fun p=>p<w.heap.size) (hdV ⟨tm,vo,ba,bt,rs,sn,vs⟩) [.int .i64 3,.int .i64 0,.string ⟨#[]⟩,.slice (some ⟨c,0,none⟩) 7 7]:=by
    have g3:=V.At.move (w':=w) (T:=fun p=>p<w.heap.size) (fun p hp=>hp.2) (fun _ _=>rfl) _ _ h1
    have g1:=V.At.move (w':=w) (T:=fun p=>p<w.heap.size) (fun p (hp:p<w1.heap.size)=>Nat.lt_of_lt_of_le hp hC.size) (fun p hp=>hC.block p hp) _ _ hvat
    have hrow:=((((((RowOf.nil.snoc (numV_at w (fun p=>p<w.heap.size) tm)).snoc (numV_at w _ vo)).snoc (numV_at w _ ba)).snoc (numV_at w _ bt)).snoc (textV_at w _ sn)).snoc g1).snoc g3
    exact listV_at (lt_of_block h3) hrow h3 rfl
   refine step_call (f:=39) (args:=#[.agg #[.int .i64 3,.int .i64 0,.string ⟨#[]⟩,.slice (some ⟨c,0,none⟩) 7 7]]) hk hw ?_ ?_
   ·unfold execOp
    simp only [ho1]
    have xf:∀ f,A.eval (.func f) = .func (.func f) #[] #[]:=fun _=>rfl
    generalize A.eval=ρ at x79 xf ⊢
    simp [go_sem,xf,x79]
   ·refine (hput w _ hC hat).mono ?_
    rintro en w' ⟨rfl,hb'⟩
    exact⟨_,rfl,rfl,below_then hC hb' hC.size,fun j u _ _ _ _ h=>rvm_keep BH bx tm vo ba bt ar nr cr rs sn av nv cv va N vc vs P1 P2 w1 j u w _ hb' h⟩
 | 25,_ =>
   have ho1:=opIs ho (p:=.move (.tmp 80)) (by kernel_rfl)
   have hg:=guardIs ho (p:=none) (by kernel_rfl)
   intro e A w hA hC hp K hk
   have x80:A.eval (.tmp 80) = .tuple #[.string P1,.int .i64 P2]:=op_tmp hA hp 80 24 (by kernel_rfl) (by kernel_rfl) (by kernel_rfl) (hz _ rfl)
   have hw:Region.wanted o (yielded (regOf Tryz.f107 9) A.tmps)=true:=wanted_free hg
   exact step_pure hk hC hw (run_move ho1 x80 w) rfl
 | 26,_ =>
   have ho1:=opIs ho (p:=.extract (.tmp 55) 0) (by kernel_rfl)
   have hg:=guardIs ho (p:=none) (by kernel_rfl)
   intro e A w hA hC hp K hk
   have x55:A.eval (.tmp 55) = .tuple #[.string P1,.int .i64 P2]:=op_tmp hA hp 55 25 (by kernel_rfl) (by kernel_rfl) (by kernel_rfl) (hz _ rfl)
   have hw:Region.wanted o (yielded (regOf Tryz.f107 9) A.tmps)=true:=wanted_free hg
   exact step_pure hk hC hw (run_extract ho1 x55 rfl w) rfl
 | 27,_ =>
   have ho1:=opIs ho (p:=.extract (.tmp 55) 1) (by kernel_rfl)
   have hg:=guardIs ho (p:=none) (by kernel_rfl)
   intro e A w hA hC hp K hk
   have x55:A.eval (.tmp 55) = .tuple #[.string P1,.int .i64 P2]:=op_tmp hA hp 55 25 (by kernel_rfl) (by kernel_rfl) (by kernel_rfl) (hz _ rfl)
   have hw:Region.wanted o (yielded (regOf Tryz.f107 9) A.tmps)=true:=wanted_free hg
   exact step_pure hk hC hw (run_extract ho1 x55 rfl w) rfl
 | 28,_ =>
   have ho1:=opIs ho (p:=.assign (.tmp 81)) (by kernel_rfl)
   have hg:=guardIs ho (p:=none) (by kernel_rfl)
   intro e A w hA hC hp K hk
   have x81:A.eval (.tmp 81) = .string P1:=op_tmp hA hp 81 26 (by kernel_rfl) (by kernel_rfl) (by kernel_rfl) (hz _ rfl)
   have hw:Region.wanted o (yielded (regOf Tryz.f107 9) A.tmps)=true:=wanted_free hg
   exact step_pure hk hC hw (run_assign ho1 x81 w) rfl
 | 29,_ =>
   have ho1:=opIs ho (p:=.assign (.tmp 82)) (by kernel_rfl)
   have hg:=guardIs ho (p:=none) (by kernel_rfl)
   intro e A w hA hC hp K hk
   have x82:A.eval (.tmp 82) = .int .i64 P2:=op_tmp hA hp 82 27 (by kernel_rfl) (by kernel_rfl) (by kernel_rfl) (hz _ rfl)
   have hw:Region.wanted o (yielded (regOf Tryz.f107 9) A.tmps)=true:=wanted_free hg
   exact step_pure hk hC hw (run_assign ho1 x82 w) rfl
 | _+30,h=>exact absurd h (by omega)
end Go.Proofs.YtlpgbmaoenncjaaGreatDoor

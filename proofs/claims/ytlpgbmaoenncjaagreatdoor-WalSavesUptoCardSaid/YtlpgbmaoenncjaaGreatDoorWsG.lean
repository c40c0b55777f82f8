/-
  The regions that write a change: the reference's Change, wal.Save.
-/
import Derived.Test.YtlpgbmaoenncjaaGreatDoorWpB
import Derived.Test.YtlpgbmaoenncjaaGreatDoorWsOne
namespace Go.Proofs.YtlpgbmaoenncjaaGreatDoor
open Go.RowKit
set_option linter.unusedVariables false
set_option maxRecDepth 100000
def rcgT (BH BL:Nat) (tm vo ba:Int) (k:Nat) (M:Int) (br:Option Addr) (nb cb:Nat) (sr:Option Addr) (sn sc:Nat) (rs:List Rc) (P1:ByteArray) (P2:Int) (w1:World):Nat→Value→World→Prop
 | 0,v,w=>v = .pointer (some ⟨BH,0,none⟩)
 | 1,v,w=>v = .int .i64 tm
 | 2,v,w=>v = .agg #[.int .i64 1,.int .i64 tm,.string ⟨#[]⟩,.slice none 0 0]
 | 3,v,w=>v = .pointer (some ⟨BH,1,none⟩)
 | 4,v,w=>v = .int .i64 vo
 | 5,v,w=>v = .agg #[.int .i64 1,.int .i64 vo,.string ⟨#[]⟩,.slice none 0 0]
 | 6,v,w=>v = .pointer (some ⟨BH,2,none⟩)
 | 7,v,w=>v = .pointer (some ⟨BH,2,none⟩)
 | 8,v,w=>v = .int .i64 ba
 | 9,v,w=>v = .int .i64 (k:Int)
 | 10,v,w=>v = .int .i64 M
 | 11,v,w=>v = .agg #[.int .i64 1,.int .i64 M,.string ⟨#[]⟩,.slice none 0 0]
 | 12,v,w=>v = .slice br nb cb
 | 13,v,w=>v = .int .i64 (k:Int)
 | 14,v,w=>v = .slice sr sn sc
 | 15,v,w=>∃ ra rc,v = .agg #[.int .i64 3,.int .i64 0,.string ⟨#[]⟩,.slice ra sn rc]∧V.At w (fun p=>w1.heap.size≤p∧p<w.heap.size) (listV (rs.map recV)) [.int .i64 3,.int .i64 0,.string ⟨#[]⟩,.slice ra sn rc]
 | 16,v,w=>∃ ra rc c,v = .slice (some ⟨c,0,none⟩) 4 4∧(V.At w (fun p=>w1.heap.size≤p∧p<w.heap.size) (listV (rs.map recV)) [.int .i64 3,.int .i64 0,.string ⟨#[]⟩,.slice ra sn rc])∧w1.heap.size≤c∧w.heap[c]? = some (.cells #[.int .i64 1,.int .i64 tm,.string ⟨#[]⟩,.slice none 0 0,.int .i64 1,.int .i64 vo,.string ⟨#[]⟩,.slice none 0 0,.int .i64 1,.int .i64 M,.string ⟨#[]⟩,.slice none 0 0,.int .i64 3,.int .i64 0,.string ⟨#[]⟩,.slice ra sn rc] 70 (0,0))
 | 17,v,w=>∃ ra rc c,v = .agg #[.int .i64 3,.int .i64 0,.string ⟨#[]⟩,.slice (some ⟨c,0,none⟩) 4 4]∧(V.At w (fun p=>w1.heap.size≤p∧p<w.heap.size) (listV (rs.map recV)) [.int .i64 3,.int .i64 0,.string ⟨#[]⟩,.slice ra sn rc])∧w1.heap.size≤c∧w.heap[c]? = some (.cells #[.int .i64 1,.int .i64 tm,.string ⟨#[]⟩,.slice none 0 0,.int .i64 1,.int .i64 vo,.string ⟨#[]⟩,.slice none 0 0,.int .i64 1,.int .i64 M,.string ⟨#[]⟩,.slice none 0 0,.int .i64 3,.int .i64 0,.string ⟨#[]⟩,.slice ra sn rc] 70 (0,0))
 | 18,v,w=>v = .tuple #[.string P1,.int .i64 P2]
 | 19,v,w=>v = .tuple #[.string P1,.int .i64 P2]
 | 20,v,w=>v = .string P1
 | 21,v,w=>v = .int .i64 P2
 | 22,v,w=>v = .string P1
 | 23,v,w=>v = .int .i64 P2
 | _,_,_=>True
def rcgD:Nat→List Nat
 | _=>[]
theorem rcg_keep (BH BL:Nat) (tm vo ba:Int) (k:Nat) (M:Int) (br:Option Addr) (nb cb:Nat) (sr:Option Addr) (sn sc:Nat) (rs:List Rc) (P1:ByteArray) (P2:Int) (w1:World):∀ (j:Nat) (u:Value) (w w':World),Below w.heap.size w w'→(rcgT BH BL tm vo ba k M br nb cb sr sn sc rs P1 P2 w1) j u w→(rcgT BH BL tm vo ba k M br nb cb sr sn sc rs P1 P2 w1) j u w'
 | 15,u,w,w',hb,h=>by obtain⟨ra,rc,rfl,h1⟩:=h; exact⟨ra,rc,rfl,V.At.move (fun p hp=>⟨hp.1,Nat.lt_of_lt_of_le hp.2 hb.size⟩) (fun p hp=>hb.block p hp.2) _ _ h1⟩
 | 16,u,w,w',hb,h=>by obtain⟨ra,rc,c,rfl,h1,h2,h3⟩:=h; exact⟨ra,rc,c,rfl,V.At.move (fun p hp=>⟨hp.1,Nat.lt_of_lt_of_le hp.2 hb.size⟩) (fun p hp=>hb.block p hp.2) _ _ h1,h2,(hb.block _ (lt_of_block h3)).trans h3⟩
 | 17,u,w,w',hb,h=>by obtain⟨ra,rc,c,rfl,h1,h2,h3⟩:=h; exact⟨ra,rc,c,rfl,V.At.move (fun p hp=>⟨hp.1,Nat.lt_of_lt_of_le hp.2 hb.size⟩) (fun p hp=>hb.block p hp.2) _ _ h1,h2,(hb.block _ (lt_of_block h3)).trans h3⟩
 | 0,u,w,w',hb,h=>h
 | 1,u,w,w',hb,h=>h
 | 2,u,w,w',hb,h=>h
 | 3,u,w,w',hb,h=>h
 | 4,u,w,w',hb,h=>h
 | 5,u,w,w',hb,h=>h
 | 6,u,w,w',hb,h=>h
 | 7,u,w,w',hb,h=>h
 | 8,u,w,w',hb,h=>h
 | 9,u,w,w',hb,h=>h
 | 10,u,w,w',hb,h=>h
 | 11,u,w,w',hb,h=>h
 | 12,u,w,w',hb,h=>h
 | 13,u,w,w',hb,h=>h
 | 14,u,w,w',hb,h=>h
 | 18,u,w,w',hb,h=>h
 | 19,u,w,w',hb,h=>h
 | 20,u,w,w',hb,h=>h
 | 21,u,w,w',hb,h=>h
 | 22,u,w,w',hb,h=>h
 | 23,u,w,w',hb,h=>h
 | _+24,u,w,w',hb,h=>trivial
set_option maxHeartbeats 4000000 in
theorem rcg_steps (BH BL:Nat) (tm vo ba:Int) (k:Nat) (M:Int) (br:Option Addr) (nb cb:Nat) (sr:Option Addr) (sn sc:Nat) (rs:List Rc) (P1:ByteArray) (P2:Int) (w1:World) (hBH:BH<w1.heap.size) (hBH0:w1.cell? ⟨BH,0,none⟩=some (.int .i64 tm)) (hBH1:w1.cell? ⟨BH,1,none⟩=some (.int .i64 vo)) (hBH2:w1.cell? ⟨BH,2,none⟩=some (.int .i64 ba)) (hadd:IntKind.i64.wrap (ba+(k:Int))=M) (hcut:∀ w,(Instr.sliceAt 22 (.slice br nb cb) (some (.int .i64 (k:Int))) none none).run Tryz.prog w = .ok (.slice sr sn sc) w) (hrs:rcE.Sl w1 sr sn rs) (hnr:sn≤200) (hput:∀ w cs,Below w1.heap.size w1 w→V.At w (fun p=>p<w.heap.size) (listV [numV tm,numV vo,numV M,listV (rs.map recV)]) cs→Calls Tryz.prog 39 #[.agg cs.toArray] w (fun e w'=>e = .returned (.tuple #[.string P1,.int .i64 P2])∧Below w.heap.size w w')) {a:Act}(hs:a.tmps.size=70) (b3:a.eval (.tmp 3) = .pointer (some ⟨BH,0,none⟩)) (b6:a.eval (.tmp 6) = .int .i64 (k:Int)) (b8:a.eval (.tmp 8) = .slice br nb cb):∀ i o,(regOf Tryz.f60 6)[i]? = some o→StepOk Tryz.prog (regOf Tryz.f60 6) a (fun w=>Below w1.heap.size w1 w) (rcgT BH BL tm vo ba k M br nb cb sr sn sc rs P1 P2 w1) rcgD i o:=by
 have hz:∀ t,Nat.blt t 70=true→Nat.blt t a.tmps.size=true:=fun t h=>by rw [hs]; exact h
 have hsz:(regOf Tryz.f60 6).size=24:=by kernel_rfl
 refine of_index 24 hsz ?_
 intro i hii o ho
 match i,hii with
 | 0,_ =>
   have ho1:=opIs ho (p:=.fieldAddr 42 (.tmp 3) 0) (by kernel_rfl)
   have hg:=guardIs ho (p:=none) (by kernel_rfl)
   intro e A w hA hC hp K hk
   have x3:A.eval (.tmp 3) = .pointer (some ⟨BH,0,none⟩):=filled_base hA (by kernel_rfl) b3
   have hw:Region.wanted o (yielded (regOf Tryz.f60 6) A.tmps)=true:=wanted_free hg
   refine step_pure (v:=.pointer (some ⟨BH,0,none⟩)) hk hC hw ?_ rfl
   unfold execOp
   simp only [ho1]
   generalize A.eval=ρ at x3 ⊢
   simp [go_sem,x3]
 | 1,_ =>
   have ho1:=opIs ho (p:=.load 3 (.tmp 41)) (by kernel_rfl)
   have hg:=guardIs ho (p:=none) (by kernel_rfl)
   intro e A w hA hC hp K hk
   have x41:A.eval (.tmp 41) = .pointer (some ⟨BH,0,none⟩):=op_tmp hA hp 41 0 (by kernel_rfl) (by kernel_rfl) (by kernel_rfl) (hz _ rfl)
   have hw:Region.wanted o (yielded (regOf Tryz.f60 6) A.tmps)=true:=wanted_free hg
   have e0:=(World.cell?_of_block (a:=⟨BH,0,none⟩) (hC.block BH hBH)).trans hBH0
   refine step_pure (v:=.int .i64 tm) hk hC hw ?_ rfl
   unfold execOp
   simp only [ho1]
   generalize A.eval=ρ at x41 ⊢
   simp [go_sem,x41,e0]
 | 2,_ =>
   have ho1:=opIs ho (p:=.call { callee:=(.value (.func 108)),args:=#[(.tmp 42)],argTypes:=#[3] }) (by kernel_rfl)
   have hg:=guardIs ho (p:=none) (by kernel_rfl)
   intro e A w hA hC hp K hk
   have x42:A.eval (.tmp 42) = .int .i64 tm:=op_tmp hA hp 42 1 (by kernel_rfl) (by kernel_rfl) (by kernel_rfl) (hz _ rfl)
   have hw:Region.wanted o (yielded (regOf Tryz.f60 6) A.tmps)=true:=wanted_free hg
   refine step_call (f:=108) (args:=#[.int .i64 tm]) hk hw ?_ ?_
   ·unfold execOp
    simp only [ho1]
    have xf:∀ f,A.eval (.func f) = .func (.func f) #[] #[]:=fun _=>rfl
    generalize A.eval=ρ at x42 xf ⊢
    simp [go_sem,xf,x42]
   ·refine (rnum14_any tm w).mono ?_
    rintro en w' ⟨rfl,hb'⟩
    exact⟨_,rfl,rfl,below_then hC hb' hC.size,fun j u _ _ _ _ h=>rcg_keep BH BL tm vo ba k M br nb cb sr sn sc rs P1 P2 w1 j u w _ hb' h⟩
 | 3,_ =>
   have ho1:=opIs ho (p:=.fieldAddr 42 (.tmp 3) 1) (by kernel_rfl)
   have hg:=guardIs ho (p:=none) (by kernel_rfl)
   intro e A w hA hC hp K hk
   have x3:A.eval (.tmp 3) = .pointer (some ⟨BH,0,none⟩):=filled_base hA (by kernel_rfl) b3
   have hw:Region.wanted o (yielded (regOf Tryz.f60 6) A.tmps)=true:=wanted_free hg
   refine step_pure (v:=.pointer (some ⟨BH,1,none⟩)) hk hC hw ?_ rfl
   unfold execOp
   simp only [ho1]
   generalize A.eval=ρ at x3 ⊢
   simp [go_sem,x3]
 | 4,_ =>
   have ho1:=opIs ho (p:=.load 3 (.tmp 44)) (by kernel_rfl)
   have hg:=guardIs ho (p:=none) (by kernel_rfl)
   intro e A w hA hC hp K hk
   have x44:A.eval (.tmp 44) = .pointer (some ⟨BH,1,none⟩):=op_tmp hA hp 44 3 (by kernel_rfl) (by kernel_rfl) (by kernel_rfl) (hz _ rfl)
   have hw:Region.wanted o (yielded (regOf Tryz.f60 6) A.tmps)=true:=wanted_free hg
   have e0:=(World.cell?_of_block (a:=⟨BH,1,none⟩) (hC.block BH hBH)).trans hBH1
   refine step_pure (v:=.int .i64 vo) hk hC hw ?_ rfl
   unfold execOp
   simp only [ho1]
   generalize A.eval=ρ at x44 ⊢
   simp [go_sem,x44,e0]
 | 5,_ =>
   have ho1:=opIs ho (p:=.call { callee:=(.value (.func 108)),args:=#[(.tmp 45)],argTypes:=#[3] }) (by kernel_rfl)
   have hg:=guardIs ho (p:=none) (by kernel_rfl)
   intro e A w hA hC hp K hk
   have x45:A.eval (.tmp 45) = .int .i64 vo:=op_tmp hA hp 45 4 (by kernel_rfl) (by kernel_rfl) (by kernel_rfl) (hz _ rfl)
   have hw:Region.wanted o (yielded (regOf Tryz.f60 6) A.tmps)=true:=wanted_free hg
   refine step_call (f:=108) (args:=#[.int .i64 vo]) hk hw ?_ ?_
   ·unfold execOp
    simp only [ho1]
    have xf:∀ f,A.eval (.func f) = .func (.func f) #[] #[]:=fun _=>rfl
    generalize A.eval=ρ at x45 xf ⊢
    simp [go_sem,xf,x45]
   ·refine (rnum14_any vo w).mono ?_
    rintro en w' ⟨rfl,hb'⟩
    exact⟨_,rfl,rfl,below_then hC hb' hC.size,fun j u _ _ _ _ h=>rcg_keep BH BL tm vo ba k M br nb cb sr sn sc rs P1 P2 w1 j u w _ hb' h⟩
 | 6,_ =>
   have ho1:=opIs ho (p:=.fieldAddr 42 (.tmp 3) 2) (by kernel_rfl)
   have hg:=guardIs ho (p:=none) (by kernel_rfl)
   intro e A w hA hC hp K hk
   have x3:A.eval (.tmp 3) = .pointer (some ⟨BH,0,none⟩):=filled_base hA (by kernel_rfl) b3
   have hw:Region.wanted o (yielded (regOf Tryz.f60 6) A.tmps)=true:=wanted_free hg
   refine step_pure (v:=.pointer (some ⟨BH,2,none⟩)) hk hC hw ?_ rfl
   unfold execOp
   simp only [ho1]
   generalize A.eval=ρ at x3 ⊢
   simp [go_sem,x3]
 | 7,_ =>
   have ho1:=opIs ho (p:=.fieldAddr 40 (.tmp 47) 0) (by kernel_rfl)
   have hg:=guardIs ho (p:=none) (by kernel_rfl)
   intro e A w hA hC hp K hk
   have x47:A.eval (.tmp 47) = .pointer (some ⟨BH,2,none⟩):=op_tmp hA hp 47 6 (by kernel_rfl) (by kernel_rfl) (by kernel_rfl) (hz _ rfl)
   have hw:Region.wanted o (yielded (regOf Tryz.f60 6) A.tmps)=true:=wanted_free hg
   refine step_pure (v:=.pointer (some ⟨BH,2,none⟩)) hk hC hw ?_ rfl
   unfold execOp
   simp only [ho1]
   generalize A.eval=ρ at x47 ⊢
   simp [go_sem,x47]
 | 8,_ =>
   have ho1:=opIs ho (p:=.load 3 (.tmp 48)) (by kernel_rfl)
   have hg:=guardIs ho (p:=none) (by kernel_rfl)
   intro e A w hA hC hp K hk
   have x48:A.eval (.tmp 48) = .pointer (some ⟨BH,2,none⟩):=op_tmp hA hp 48 7 (by kernel_rfl) (by kernel_rfl) (by kernel_rfl) (hz _ rfl)
   have hw:Region.wanted o (yielded (regOf Tryz.f60 6) A.tmps)=true:=wanted_free hg
   have e0:=(World.cell?_of_block (a:=⟨BH,2,none⟩) (hC.block BH hBH)).trans hBH2
   refine step_pure (v:=.int .i64 ba) hk hC hw ?_ rfl
   unfold execOp
   simp only [ho1]
   generalize A.eval=ρ at x48 ⊢
   simp [go_sem,x48,e0]
 | 9,_ =>
   have ho1:=opIs ho (p:=.move (.tmp 6)) (by kernel_rfl)
   have hg:=guardIs ho (p:=none) (by kernel_rfl)
   intro e A w hA hC hp K hk
   have x6:A.eval (.tmp 6) = .int .i64 (k:Int):=filled_base hA (by kernel_rfl) b6
   have hw:Region.wanted o (yielded (regOf Tryz.f60 6) A.tmps)=true:=wanted_free hg
   exact step_pure hk hC hw (run_move ho1 x6 w) rfl
 | 10,_ =>
   have ho1:=opIs ho (p:=.binOp .add 3 (.tmp 49) (.tmp 50) 3) (by kernel_rfl)
   have hg:=guardIs ho (p:=none) (by kernel_rfl)
   intro e A w hA hC hp K hk
   have x49:A.eval (.tmp 49) = .int .i64 ba:=op_tmp hA hp 49 8 (by kernel_rfl) (by kernel_rfl) (by kernel_rfl) (hz _ rfl)
   have x50:A.eval (.tmp 50) = .int .i64 (k:Int):=op_tmp hA hp 50 9 (by kernel_rfl) (by kernel_rfl) (by kernel_rfl) (hz _ rfl)
   have hw:Region.wanted o (yielded (regOf Tryz.f60 6) A.tmps)=true:=wanted_free hg
   refine step_pure (v:=.int .i64 M) hk hC hw ?_ rfl
   unfold execOp
   simp only [ho1]
   generalize A.eval=ρ at x49 x50 ⊢
   simp [go_sem,x49,x50,hadd]
 | 11,_ =>
   have ho1:=opIs ho (p:=.call { callee:=(.value (.func 108)),args:=#[(.tmp 51)],argTypes:=#[3] }) (by kernel_rfl)
   have hg:=guardIs ho (p:=none) (by kernel_rfl)
   intro e A w hA hC hp K hk
   have x51:A.eval (.tmp 51) = .int .i64 M:=op_tmp hA hp 51 10 (by kernel_rfl) (by kernel_rfl) (by kernel_rfl) (hz _ rfl)
   have hw:Region.wanted o (yielded (regOf Tryz.f60 6) A.tmps)=true:=wanted_free hg
   refine step_call (f:=108) (args:=#[.int .i64 M]) hk hw ?_ ?_
   ·unfold execOp
    simp only [ho1]
    have xf:∀ f,A.eval (.func f) = .func (.func f) #[] #[]:=fun _=>rfl
    generalize A.eval=ρ at x51 xf ⊢
    simp [go_sem,xf,x51]
   ·refine (rnum14_any M w).mono ?_
    rintro en w' ⟨rfl,hb'⟩
    exact⟨_,rfl,rfl,below_then hC hb' hC.size,fun j u _ _ _ _ h=>rcg_keep BH BL tm vo ba k M br nb cb sr sn sc rs P1 P2 w1 j u w _ hb' h⟩
 | 12,_ =>
   have ho1:=opIs ho (p:=.move (.tmp 8)) (by kernel_rfl)
   have hg:=guardIs ho (p:=none) (by kernel_rfl)
   intro e A w hA hC hp K hk
   have x8:A.eval (.tmp 8) = .slice br nb cb:=filled_base hA (by kernel_rfl) b8
   have hw:Region.wanted o (yielded (regOf Tryz.f60 6) A.tmps)=true:=wanted_free hg
   exact step_pure hk hC hw (run_move ho1 x8 w) rfl
 | 13,_ =>
   have ho1:=opIs ho (p:=.move (.tmp 6)) (by kernel_rfl)
   have hg:=guardIs ho (p:=none) (by kernel_rfl)
   intro e A w hA hC hp K hk
   have x6:A.eval (.tmp 6) = .int .i64 (k:Int):=filled_base hA (by kernel_rfl) b6
   have hw:Region.wanted o (yielded (regOf Tryz.f60 6) A.tmps)=true:=wanted_free hg
   exact step_pure hk hC hw (run_move ho1 x6 w) rfl
 | 14,_ =>
   have ho1:=opIs ho (p:=.slice 22 (.tmp 53) (some (.tmp 54)) none none) (by kernel_rfl)
   have hg:=guardIs ho (p:=none) (by kernel_rfl)
   intro e A w hA hC hp K hk
   have x53:A.eval (.tmp 53) = .slice br nb cb:=op_tmp hA hp 53 12 (by kernel_rfl) (by kernel_rfl) (by kernel_rfl) (hz _ rfl)
   have x54:A.eval (.tmp 54) = .int .i64 (k:Int):=op_tmp hA hp 54 13 (by kernel_rfl) (by kernel_rfl) (by kernel_rfl) (hz _ rfl)
   have hw:Region.wanted o (yielded (regOf Tryz.f60 6) A.tmps)=true:=wanted_free hg
   refine step_pure (v:=.slice sr sn sc) hk hC hw ?_ rfl
   unfold execOp
   simp only [ho1]
   generalize A.eval=ρ at x53 x54 ⊢
   simp [go_sem,x53,x54,hcut]
 | 15,_ =>
   have ho1:=opIs ho (p:=.call { callee:=(.value (.func 109)),args:=#[(.tmp 55)],argTypes:=#[22] }) (by kernel_rfl)
   have hg:=guardIs ho (p:=none) (by kernel_rfl)
   intro e A w hA hC hp K hk
   have x55:A.eval (.tmp 55) = .slice sr sn sc:=op_tmp hA hp 55 14 (by kernel_rfl) (by kernel_rfl) (by kernel_rfl) (hz _ rfl)
   have hw:Region.wanted o (yielded (regOf Tryz.f60 6) A.tmps)=true:=wanted_free hg
   refine step_call (f:=109) (args:=#[.slice sr sn sc]) hk hw ?_ ?_
   ·unfold execOp
    simp only [ho1]
    have xf:∀ f,A.eval (.func f) = .func (.func f) #[] #[]:=fun _=>rfl
    generalize A.eval=ρ at x55 xf ⊢
    simp [go_sem,xf,x55]
   ·refine (rrecs_any sr sn sc rs w (hrs.keep hC) hnr).mono ?_
    rintro en w' ⟨ra,rc,rfl,hat,hb'⟩
    exact⟨_,rfl,⟨ra,rc,rfl,V.At.move (fun p hp=>⟨Nat.le_trans hC.size hp.1,hp.2⟩) (fun _ _=>rfl) _ _ hat⟩,below_then hC hb' hC.size,fun j u _ _ _ _ h=>rcg_keep BH BL tm vo ba k M br nb cb sr sn sc rs P1 P2 w1 j u w _ hb' h⟩
 | 16,_ =>
   have ho1:=opIs ho (p:=.buildSlice 68 4 #[(0,(.tmp 43)),(1,(.tmp 46)),(2,(.tmp 52)),(3,(.tmp 56))]) (by kernel_rfl)
   have hg:=guardIs ho (p:=none) (by kernel_rfl)
   intro e A w hA hC hp K hk
   have x43:A.eval (.tmp 43) = .agg #[.int .i64 1,.int .i64 tm,.string ⟨#[]⟩,.slice none 0 0]:=op_tmp hA hp 43 2 (by kernel_rfl) (by kernel_rfl) (by kernel_rfl) (hz _ rfl)
   have x46:A.eval (.tmp 46) = .agg #[.int .i64 1,.int .i64 vo,.string ⟨#[]⟩,.slice none 0 0]:=op_tmp hA hp 46 5 (by kernel_rfl) (by kernel_rfl) (by kernel_rfl) (hz _ rfl)
   have x52:A.eval (.tmp 52) = .agg #[.int .i64 1,.int .i64 M,.string ⟨#[]⟩,.slice none 0 0]:=op_tmp hA hp 52 11 (by kernel_rfl) (by kernel_rfl) (by kernel_rfl) (hz _ rfl)
   have x56:=op_tmp hA hp 56 15 (by kernel_rfl) (by kernel_rfl) (by kernel_rfl) (hz _ rfl)
   have hw:Region.wanted o (yielded (regOf Tryz.f60 6) A.tmps)=true:=wanted_free hg
   obtain⟨ra,rc,x56,h1⟩:=x56
   refine step_value (v:=.slice (some ⟨w.heap.size,0,none⟩) 4 4) (w':=w.alloc (.cells #[.int .i64 1,.int .i64 tm,.string ⟨#[]⟩,.slice none 0 0,.int .i64 1,.int .i64 vo,.string ⟨#[]⟩,.slice none 0 0,.int .i64 1,.int .i64 M,.string ⟨#[]⟩,.slice none 0 0,.int .i64 3,.int .i64 0,.string ⟨#[]⟩,.slice ra sn rc] 70)) hk hw ?_ ?_ ?_ ?_
   ·unfold execOp
    simp only [ho1]
    generalize A.eval=ρ at x43 x46 x52 x56 ⊢
    simp [go_sem,x43,x46,x52,x56]
   ·exact⟨ra,rc,w.heap.size,rfl,V.At.move (fun p hp=>⟨hp.1,Nat.lt_of_lt_of_le hp.2 (World.grownBy_alloc w _ none).size⟩) (fun p hp=>heap_alloc_old w _ hp.2) _ _ h1,hC.size,heap_alloc_new w _⟩
   ·exact hC.alloc hC.size _
   ·intro j u _ _ _ _ h
    exact rcg_keep BH BL tm vo ba k M br nb cb sr sn sc rs P1 P2 w1 j u w _ ((Below.refl _ w).alloc (Nat.le_refl _) _) h
 | 17,_ =>
   have ho1:=opIs ho (p:=.build 70 #[(0,(.const (.int .i64 3))),(3,(.tmp 57))]) (by kernel_rfl)
   have hg:=guardIs ho (p:=none) (by kernel_rfl)
   intro e A w hA hC hp K hk
   have x57:=op_tmp hA hp 57 16 (by kernel_rfl) (by kernel_rfl) (by kernel_rfl) (hz _ rfl)
   have hw:Region.wanted o (yielded (regOf Tryz.f60 6) A.tmps)=true:=wanted_free hg
   obtain⟨ra,rc,c,x57,h1,h2,h3⟩:=x57
   refine step_pure (v:=.agg #[.int .i64 3,.int .i64 0,.string ⟨#[]⟩,.slice (some ⟨c,0,none⟩) 4 4]) hk hC hw ?_ ⟨ra,rc,c,rfl,h1,h2,h3⟩
   unfold execOp
   simp only [ho1]
   have xc:∀ v,A.eval (.const v)=v:=fun _=>rfl
   generalize A.eval=ρ at x57 xc ⊢
   simp [go_sem,x57,xc]
 | 18,_ =>
   have ho1:=opIs ho (p:=.call { callee:=(.value (.func 39)),args:=#[(.tmp 58)],argTypes:=#[70] }) (by kernel_rfl)
   have hg:=guardIs ho (p:=none) (by kernel_rfl)
   intro e A w hA hC hp K hk
   have x58:=op_tmp hA hp 58 17 (by kernel_rfl) (by kernel_rfl) (by kernel_rfl) (hz _ rfl)
   have hw:Region.wanted o (yielded (regOf Tryz.f60 6) A.tmps)=true:=wanted_free hg
   obtain⟨ra,rc,c,x58,h1,h2,h3⟩:=x58
   have hat:V.At w (fun p=>p<w.heap.size) (listV [numV tm,numV vo,numV M,listV (rs.map recV)]) [.int .i64 3,.int .i64 0,.string ⟨#[]⟩,.slice (some ⟨c,0,none⟩) 4 4]:=by
    have g1:=V.At.move (w':=w) (T:=fun p=>p<w.heap.size) (fun p hp=>hp.2) (fun _ _=>rfl) _ _ h1
    have hrow:=(((RowOf.nil.snoc (numV_at w (fun p=>p<w.heap.size) tm)).snoc (numV_at w _ vo)).snoc (numV_at w _ M)).snoc g1
    exact listV_at (lt_of_block h3) hrow h3 rfl
   refine step_call (f:=39) (args:=#[.agg #[.int .i64 3,.int .i64 0,.string ⟨#[]⟩,.slice (some ⟨c,0,none⟩) 4 4]]) hk hw ?_ ?_
   ·unfold execOp
    simp only [ho1]
    have xf:∀ f,A.eval (.func f) = .func (.func f) #[] #[]:=fun _=>rfl
    generalize A.eval=ρ at x58 xf ⊢
    simp [go_sem,xf,x58]
   ·refine (hput w _ hC hat).mono ?_
    rintro en w' ⟨rfl,hb'⟩
    exact⟨_,rfl,rfl,below_then hC hb' hC.size,fun j u _ _ _ _ h=>rcg_keep BH BL tm vo ba k M br nb cb sr sn sc rs P1 P2 w1 j u w _ hb' h⟩
 | 19,_ =>
   have ho1:=opIs ho (p:=.move (.tmp 59)) (by kernel_rfl)
   have hg:=guardIs ho (p:=none) (by kernel_rfl)
   intro e A w hA hC hp K hk
   have x59:A.eval (.tmp 59) = .tuple #[.string P1,.int .i64 P2]:=op_tmp hA hp 59 18 (by kernel_rfl) (by kernel_rfl) (by kernel_rfl) (hz _ rfl)
   have hw:Region.wanted o (yielded (regOf Tryz.f60 6) A.tmps)=true:=wanted_free hg
   exact step_pure hk hC hw (run_move ho1 x59 w) rfl
 | 20,_ =>
   have ho1:=opIs ho (p:=.extract (.tmp 40) 0) (by kernel_rfl)
   have hg:=guardIs ho (p:=none) (by kernel_rfl)
   intro e A w hA hC hp K hk
   have x40:A.eval (.tmp 40) = .tuple #[.string P1,.int .i64 P2]:=op_tmp hA hp 40 19 (by kernel_rfl) (by kernel_rfl) (by kernel_rfl) (hz _ rfl)
   have hw:Region.wanted o (yielded (regOf Tryz.f60 6) A.tmps)=true:=wanted_free hg
   exact step_pure hk hC hw (run_extract ho1 x40 rfl w) rfl
 | 21,_ =>
   have ho1:=opIs ho (p:=.extract (.tmp 40) 1) (by kernel_rfl)
   have hg:=guardIs ho (p:=none) (by kernel_rfl)
   intro e A w hA hC hp K hk
   have x40:A.eval (.tmp 40) = .tuple #[.string P1,.int .i64 P2]:=op_tmp hA hp 40 19 (by kernel_rfl) (by kernel_rfl) (by kernel_rfl) (hz _ rfl)
   have hw:Region.wanted o (yielded (regOf Tryz.f60 6) A.tmps)=true:=wanted_free hg
   exact step_pure hk hC hw (run_extract ho1 x40 rfl w) rfl
 | 22,_ =>
   have ho1:=opIs ho (p:=.assign (.tmp 60)) (by kernel_rfl)
   have hg:=guardIs ho (p:=none) (by kernel_rfl)
   intro e A w hA hC hp K hk
   have x60:A.eval (.tmp 60) = .string P1:=op_tmp hA hp 60 20 (by kernel_rfl) (by kernel_rfl) (by kernel_rfl) (hz _ rfl)
   have hw:Region.wanted o (yielded (regOf Tryz.f60 6) A.tmps)=true:=wanted_free hg
   exact step_pure hk hC hw (run_assign ho1 x60 w) rfl
 | 23,_ =>
   have ho1:=opIs ho (p:=.assign (.tmp 61)) (by kernel_rfl)
   have hg:=guardIs ho (p:=none) (by kernel_rfl)
   intro e A w hA hC hp K hk
   have x61:A.eval (.tmp 61) = .int .i64 P2:=op_tmp hA hp 61 21 (by kernel_rfl) (by kernel_rfl) (by kernel_rfl) (hz _ rfl)
   have hw:Region.wanted o (yielded (regOf Tryz.f60 6) A.tmps)=true:=wanted_free hg
   exact step_pure hk hC hw (run_assign ho1 x61 w) rfl
 | _+24,h=>exact absurd h (by omega)
def wcgT (BH BL:Nat) (tm vo ba:Int) (k:Nat) (M:Int) (br:Option Addr) (nb cb:Nat) (sr:Option Addr) (sn sc:Nat) (rs:List Rc) (P1:ByteArray) (P2:Int) (w1:World):Nat→Value→World→Prop
 | 0,v,w=>v = .pointer (some ⟨BH,0,none⟩)
 | 1,v,w=>v = .int .i64 tm
 | 2,v,w=>v = .agg #[.int .i64 1,.int .i64 tm,.string ⟨#[]⟩,.slice none 0 0]
 | 3,v,w=>v = .pointer (some ⟨BH,1,none⟩)
 | 4,v,w=>v = .int .i64 vo
 | 5,v,w=>v = .agg #[.int .i64 1,.int .i64 vo,.string ⟨#[]⟩,.slice none 0 0]
 | 6,v,w=>v = .pointer (some ⟨BL,0,none⟩)
 | 7,v,w=>v = .int .i64 ba
 | 8,v,w=>v = .int .i64 (k:Int)
 | 9,v,w=>v = .int .i64 M
 | 10,v,w=>v = .agg #[.int .i64 1,.int .i64 M,.string ⟨#[]⟩,.slice none 0 0]
 | 11,v,w=>v = .pointer (some ⟨BL,2,none⟩)
 | 12,v,w=>v = .slice br nb cb
 | 13,v,w=>v = .int .i64 (k:Int)
 | 14,v,w=>v = .slice sr sn sc
 | 15,v,w=>∃ ra rc,v = .agg #[.int .i64 3,.int .i64 0,.string ⟨#[]⟩,.slice ra sn rc]∧V.At w (fun p=>w1.heap.size≤p∧p<w.heap.size) (listV (rs.map recV)) [.int .i64 3,.int .i64 0,.string ⟨#[]⟩,.slice ra sn rc]
 | 16,v,w=>∃ ra rc c,v = .slice (some ⟨c,0,none⟩) 4 4∧(V.At w (fun p=>w1.heap.size≤p∧p<w.heap.size) (listV (rs.map recV)) [.int .i64 3,.int .i64 0,.string ⟨#[]⟩,.slice ra sn rc])∧w1.heap.size≤c∧w.heap[c]? = some (.cells #[.int .i64 1,.int .i64 tm,.string ⟨#[]⟩,.slice none 0 0,.int .i64 1,.int .i64 vo,.string ⟨#[]⟩,.slice none 0 0,.int .i64 1,.int .i64 M,.string ⟨#[]⟩,.slice none 0 0,.int .i64 3,.int .i64 0,.string ⟨#[]⟩,.slice ra sn rc] 70 (0,0))
 | 17,v,w=>∃ ra rc c,v = .agg #[.int .i64 3,.int .i64 0,.string ⟨#[]⟩,.slice (some ⟨c,0,none⟩) 4 4]∧(V.At w (fun p=>w1.heap.size≤p∧p<w.heap.size) (listV (rs.map recV)) [.int .i64 3,.int .i64 0,.string ⟨#[]⟩,.slice ra sn rc])∧w1.heap.size≤c∧w.heap[c]? = some (.cells #[.int .i64 1,.int .i64 tm,.string ⟨#[]⟩,.slice none 0 0,.int .i64 1,.int .i64 vo,.string ⟨#[]⟩,.slice none 0 0,.int .i64 1,.int .i64 M,.string ⟨#[]⟩,.slice none 0 0,.int .i64 3,.int .i64 0,.string ⟨#[]⟩,.slice ra sn rc] 70 (0,0))
 | 18,v,w=>v = .tuple #[.string P1,.int .i64 P2]
 | 19,v,w=>v = .tuple #[.string P1,.int .i64 P2]
 | 20,v,w=>v = .string P1
 | 21,v,w=>v = .int .i64 P2
 | 22,v,w=>v = .string P1
 | 23,v,w=>v = .int .i64 P2
 | _,_,_=>True
def wcgD:Nat→List Nat
 | _=>[]
theorem wcg_keep (BH BL:Nat) (tm vo ba:Int) (k:Nat) (M:Int) (br:Option Addr) (nb cb:Nat) (sr:Option Addr) (sn sc:Nat) (rs:List Rc) (P1:ByteArray) (P2:Int) (w1:World):∀ (j:Nat) (u:Value) (w w':World),Below w.heap.size w w'→(wcgT BH BL tm vo ba k M br nb cb sr sn sc rs P1 P2 w1) j u w→(wcgT BH BL tm vo ba k M br nb cb sr sn sc rs P1 P2 w1) j u w'
 | 15,u,w,w',hb,h=>by obtain⟨ra,rc,rfl,h1⟩:=h; exact⟨ra,rc,rfl,V.At.move (fun p hp=>⟨hp.1,Nat.lt_of_lt_of_le hp.2 hb.size⟩) (fun p hp=>hb.block p hp.2) _ _ h1⟩
 | 16,u,w,w',hb,h=>by obtain⟨ra,rc,c,rfl,h1,h2,h3⟩:=h; exact⟨ra,rc,c,rfl,V.At.move (fun p hp=>⟨hp.1,Nat.lt_of_lt_of_le hp.2 hb.size⟩) (fun p hp=>hb.block p hp.2) _ _ h1,h2,(hb.block _ (lt_of_block h3)).trans h3⟩
 | 17,u,w,w',hb,h=>by obtain⟨ra,rc,c,rfl,h1,h2,h3⟩:=h; exact⟨ra,rc,c,rfl,V.At.move (fun p hp=>⟨hp.1,Nat.lt_of_lt_of_le hp.2 hb.size⟩) (fun p hp=>hb.block p hp.2) _ _ h1,h2,(hb.block _ (lt_of_block h3)).trans h3⟩
 | 0,u,w,w',hb,h=>h
 | 1,u,w,w',hb,h=>h
 | 2,u,w,w',hb,h=>h
 | 3,u,w,w',hb,h=>h
 | 4,u,w,w',hb,h=>h
 | 5,u,w,w',hb,h=>h
 | 6,u,w,w',hb,h=>h
 | 7,u,w,w',hb,h=>h
 | 8,u,w,w',hb,h=>h
 | 9,u,w,w',hb,h=>h
 | 10,u,w,w',hb,h=>h
 | 11,u,w,w',hb,h=>h
 | 12,u,w,w',hb,h=>h
 | 13,u,w,w',hb,h=>h
 | 14,u,w,w',hb,h=>h
 | 18,u,w,w',hb,h=>h
 | 19,u,w,w',hb,h=>h
 | 20,u,w,w',hb,h=>h
 | 21,u,w,w',hb,h=>h
 | 22,u,w,w',hb,h=>h
 | 23,u,w,w',hb,h=>h
 | _+24,u,w,w',hb,h=>trivial
set_option maxHeartbeats 4000000 in
theorem wcg_steps (BH BL:Nat) (tm vo ba:Int) (k:Nat) (M:Int) (br:Option Addr) (nb cb:Nat) (sr:Option Addr) (sn sc:Nat) (rs:List Rc) (P1:ByteArray) (P2:Int) (w1:World) (hBH:BH<w1.heap.size) (hBH0:w1.cell? ⟨BH,0,none⟩=some (.int .i64 tm)) (hBH1:w1.cell? ⟨BH,1,none⟩=some (.int .i64 vo)) (hBL:BL<w1.heap.size) (hBL0:w1.cell? ⟨BL,0,none⟩=some (.int .i64 ba)) (hBL2:w1.cell? ⟨BL,2,none⟩=some (.slice br nb cb)) (hadd:IntKind.i64.wrap (ba+(k:Int))=M) (hcut:∀ w,(Instr.sliceAt 22 (.slice br nb cb) (some (.int .i64 (k:Int))) none none).run Tryz.prog w = .ok (.slice sr sn sc) w) (hrs:rcE.Sl w1 sr sn rs) (hnr:sn≤200) (hput:∀ w cs,Below w1.heap.size w1 w→V.At w (fun p=>p<w.heap.size) (listV [numV tm,numV vo,numV M,listV (rs.map recV)]) cs→Calls Tryz.prog 36 #[.agg cs.toArray] w (fun e w'=>e = .returned (.tuple #[.string P1,.int .i64 P2])∧Below w.heap.size w w')) {a:Act}(hs:a.tmps.size=176) (b5:a.eval (.tmp 5) = .pointer (some ⟨BH,0,none⟩)) (b10:a.eval (.tmp 10) = .int .i64 (k:Int)) (b9:a.eval (.tmp 9) = .pointer (some ⟨BL,0,none⟩)):∀ i o,(regOf Tryz.f19 13)[i]? = some o→StepOk Tryz.prog (regOf Tryz.f19 13) a (fun w=>Below w1.heap.size w1 w) (wcgT BH BL tm vo ba k M br nb cb sr sn sc rs P1 P2 w1) wcgD i o:=by
 have hz:∀ t,Nat.blt t 176=true→Nat.blt t a.tmps.size=true:=fun t h=>by rw [hs]; exact h
 have hsz:(regOf Tryz.f19 13).size=24:=by kernel_rfl
 refine of_index 24 hsz ?_
 intro i hii o ho
 match i,hii with
 | 0,_ =>
   have ho1:=opIs ho (p:=.fieldAddr 42 (.tmp 5) 0) (by kernel_rfl)
   have hg:=guardIs ho (p:=none) (by kernel_rfl)
   intro e A w hA hC hp K hk
   have x5:A.eval (.tmp 5) = .pointer (some ⟨BH,0,none⟩):=filled_base hA (by kernel_rfl) b5
   have hw:Region.wanted o (yielded (regOf Tryz.f19 13) A.tmps)=true:=wanted_free hg
   refine step_pure (v:=.pointer (some ⟨BH,0,none⟩)) hk hC hw ?_ rfl
   unfold execOp
   simp only [ho1]
   generalize A.eval=ρ at x5 ⊢
   simp [go_sem,x5]
 | 1,_ =>
   have ho1:=opIs ho (p:=.load 3 (.tmp 130)) (by kernel_rfl)
   have hg:=guardIs ho (p:=none) (by kernel_rfl)
   intro e A w hA hC hp K hk
   have x130:A.eval (.tmp 130) = .pointer (some ⟨BH,0,none⟩):=op_tmp hA hp 130 0 (by kernel_rfl) (by kernel_rfl) (by kernel_rfl) (hz _ rfl)
   have hw:Region.wanted o (yielded (regOf Tryz.f19 13) A.tmps)=true:=wanted_free hg
   have e0:=(World.cell?_of_block (a:=⟨BH,0,none⟩) (hC.block BH hBH)).trans hBH0
   refine step_pure (v:=.int .i64 tm) hk hC hw ?_ rfl
   unfold execOp
   simp only [ho1]
   generalize A.eval=ρ at x130 ⊢
   simp [go_sem,x130,e0]
 | 2,_ =>
   have ho1:=opIs ho (p:=.call { callee:=(.value (.func 54)),args:=#[(.tmp 131)],argTypes:=#[3] }) (by kernel_rfl)
   have hg:=guardIs ho (p:=none) (by kernel_rfl)
   intro e A w hA hC hp K hk
   have x131:A.eval (.tmp 131) = .int .i64 tm:=op_tmp hA hp 131 1 (by kernel_rfl) (by kernel_rfl) (by kernel_rfl) (hz _ rfl)
   have hw:Region.wanted o (yielded (regOf Tryz.f19 13) A.tmps)=true:=wanted_free hg
   refine step_call (f:=54) (args:=#[.int .i64 tm]) hk hw ?_ ?_
   ·unfold execOp
    simp only [ho1]
    have xf:∀ f,A.eval (.func f) = .func (.func f) #[] #[]:=fun _=>rfl
    generalize A.eval=ρ at x131 xf ⊢
    simp [go_sem,xf,x131]
   ·refine (wnum_any tm w).mono ?_
    rintro en w' ⟨rfl,hb'⟩
    exact⟨_,rfl,rfl,below_then hC hb' hC.size,fun j u _ _ _ _ h=>wcg_keep BH BL tm vo ba k M br nb cb sr sn sc rs P1 P2 w1 j u w _ hb' h⟩
 | 3,_ =>
   have ho1:=opIs ho (p:=.fieldAddr 42 (.tmp 5) 1) (by kernel_rfl)
   have hg:=guardIs ho (p:=none) (by kernel_rfl)
   intro e A w hA hC hp K hk
   have x5:A.eval (.tmp 5) = .pointer (some ⟨BH,0,none⟩):=filled_base hA (by kernel_rfl) b5
   have hw:Region.wanted o (yielded (regOf Tryz.f19 13) A.tmps)=true:=wanted_free hg
   refine step_pure (v:=.pointer (some ⟨BH,1,none⟩)) hk hC hw ?_ rfl
   unfold execOp
   simp only [ho1]
   generalize A.eval=ρ at x5 ⊢
   simp [go_sem,x5]
 | 4,_ =>
   have ho1:=opIs ho (p:=.load 3 (.tmp 133)) (by kernel_rfl)
   have hg:=guardIs ho (p:=none) (by kernel_rfl)
   intro e A w hA hC hp K hk
   have x133:A.eval (.tmp 133) = .pointer (some ⟨BH,1,none⟩):=op_tmp hA hp 133 3 (by kernel_rfl) (by kernel_rfl) (by kernel_rfl) (hz _ rfl)
   have hw:Region.wanted o (yielded (regOf Tryz.f19 13) A.tmps)=true:=wanted_free hg
   have e0:=(World.cell?_of_block (a:=⟨BH,1,none⟩) (hC.block BH hBH)).trans hBH1
   refine step_pure (v:=.int .i64 vo) hk hC hw ?_ rfl
   unfold execOp
   simp only [ho1]
   generalize A.eval=ρ at x133 ⊢
   simp [go_sem,x133,e0]
 | 5,_ =>
   have ho1:=opIs ho (p:=.call { callee:=(.value (.func 54)),args:=#[(.tmp 134)],argTypes:=#[3] }) (by kernel_rfl)
   have hg:=guardIs ho (p:=none) (by kernel_rfl)
   intro e A w hA hC hp K hk
   have x134:A.eval (.tmp 134) = .int .i64 vo:=op_tmp hA hp 134 4 (by kernel_rfl) (by kernel_rfl) (by kernel_rfl) (hz _ rfl)
   have hw:Region.wanted o (yielded (regOf Tryz.f19 13) A.tmps)=true:=wanted_free hg
   refine step_call (f:=54) (args:=#[.int .i64 vo]) hk hw ?_ ?_
   ·unfold execOp
    simp only [ho1]
    have xf:∀ f,A.eval (.func f) = .func (.func f) #[] #[]:=fun _=>rfl
    generalize A.eval=ρ at x134 xf ⊢
    simp [go_sem,xf,x134]
   ·refine (wnum_any vo w).mono ?_
    rintro en w' ⟨rfl,hb'⟩
    exact⟨_,rfl,rfl,below_then hC hb' hC.size,fun j u _ _ _ _ h=>wcg_keep BH BL tm vo ba k M br nb cb sr sn sc rs P1 P2 w1 j u w _ hb' h⟩
 | 6,_ =>
   have ho1:=opIs ho (p:=.fieldAddr 40 (.tmp 9) 0) (by kernel_rfl)
   have hg:=guardIs ho (p:=none) (by kernel_rfl)
   intro e A w hA hC hp K hk
   have x9:A.eval (.tmp 9) = .pointer (some ⟨BL,0,none⟩):=filled_base hA (by kernel_rfl) b9
   have hw:Region.wanted o (yielded (regOf Tryz.f19 13) A.tmps)=true:=wanted_free hg
   refine step_pure (v:=.pointer (some ⟨BL,0,none⟩)) hk hC hw ?_ rfl
   unfold execOp
   simp only [ho1]
   generalize A.eval=ρ at x9 ⊢
   simp [go_sem,x9]
 | 7,_ =>
   have ho1:=opIs ho (p:=.load 3 (.tmp 136)) (by kernel_rfl)
   have hg:=guardIs ho (p:=none) (by kernel_rfl)
   intro e A w hA hC hp K hk
   have x136:A.eval (.tmp 136) = .pointer (some ⟨BL,0,none⟩):=op_tmp hA hp 136 6 (by kernel_rfl) (by kernel_rfl) (by kernel_rfl) (hz _ rfl)
   have hw:Region.wanted o (yielded (regOf Tryz.f19 13) A.tmps)=true:=wanted_free hg
   have e0:=(World.cell?_of_block (a:=⟨BL,0,none⟩) (hC.block BL hBL)).trans hBL0
   refine step_pure (v:=.int .i64 ba) hk hC hw ?_ rfl
   unfold execOp
   simp only [ho1]
   generalize A.eval=ρ at x136 ⊢
   simp [go_sem,x136,e0]
 | 8,_ =>
   have ho1:=opIs ho (p:=.move (.tmp 10)) (by kernel_rfl)
   have hg:=guardIs ho (p:=none) (by kernel_rfl)
   intro e A w hA hC hp K hk
   have x10:A.eval (.tmp 10) = .int .i64 (k:Int):=filled_base hA (by kernel_rfl) b10
   have hw:Region.wanted o (yielded (regOf Tryz.f19 13) A.tmps)=true:=wanted_free hg
   exact step_pure hk hC hw (run_move ho1 x10 w) rfl
 | 9,_ =>
   have ho1:=opIs ho (p:=.binOp .add 3 (.tmp 137) (.tmp 138) 3) (by kernel_rfl)
   have hg:=guardIs ho (p:=none) (by kernel_rfl)
   intro e A w hA hC hp K hk
   have x137:A.eval (.tmp 137) = .int .i64 ba:=op_tmp hA hp 137 7 (by kernel_rfl) (by kernel_rfl) (by kernel_rfl) (hz _ rfl)
   have x138:A.eval (.tmp 138) = .int .i64 (k:Int):=op_tmp hA hp 138 8 (by kernel_rfl) (by kernel_rfl) (by kernel_rfl) (hz _ rfl)
   have hw:Region.wanted o (yielded (regOf Tryz.f19 13) A.tmps)=true:=wanted_free hg
   refine step_pure (v:=.int .i64 M) hk hC hw ?_ rfl
   unfold execOp
   simp only [ho1]
   generalize A.eval=ρ at x137 x138 ⊢
   simp [go_sem,x137,x138,hadd]
 | 10,_ =>
   have ho1:=opIs ho (p:=.call { callee:=(.value (.func 54)),args:=#[(.tmp 139)],argTypes:=#[3] }) (by kernel_rfl)
   have hg:=guardIs ho (p:=none) (by kernel_rfl)
   intro e A w hA hC hp K hk
   have x139:A.eval (.tmp 139) = .int .i64 M:=op_tmp hA hp 139 9 (by kernel_rfl) (by kernel_rfl) (by kernel_rfl) (hz _ rfl)
   have hw:Region.wanted o (yielded (regOf Tryz.f19 13) A.tmps)=true:=wanted_free hg
   refine step_call (f:=54) (args:=#[.int .i64 M]) hk hw ?_ ?_
   ·unfold execOp
    simp only [ho1]
    have xf:∀ f,A.eval (.func f) = .func (.func f) #[] #[]:=fun _=>rfl
    generalize A.eval=ρ at x139 xf ⊢
    simp [go_sem,xf,x139]
   ·refine (wnum_any M w).mono ?_
    rintro en w' ⟨rfl,hb'⟩
    exact⟨_,rfl,rfl,below_then hC hb' hC.size,fun j u _ _ _ _ h=>wcg_keep BH BL tm vo ba k M br nb cb sr sn sc rs P1 P2 w1 j u w _ hb' h⟩
 | 11,_ =>
   have ho1:=opIs ho (p:=.fieldAddr 40 (.tmp 9) 2) (by kernel_rfl)
   have hg:=guardIs ho (p:=none) (by kernel_rfl)
   intro e A w hA hC hp K hk
   have x9:A.eval (.tmp 9) = .pointer (some ⟨BL,0,none⟩):=filled_base hA (by kernel_rfl) b9
   have hw:Region.wanted o (yielded (regOf Tryz.f19 13) A.tmps)=true:=wanted_free hg
   refine step_pure (v:=.pointer (some ⟨BL,2,none⟩)) hk hC hw ?_ rfl
   unfold execOp
   simp only [ho1]
   generalize A.eval=ρ at x9 ⊢
   simp [go_sem,x9]
 | 12,_ =>
   have ho1:=opIs ho (p:=.load 22 (.tmp 141)) (by kernel_rfl)
   have hg:=guardIs ho (p:=none) (by kernel_rfl)
   intro e A w hA hC hp K hk
   have x141:A.eval (.tmp 141) = .pointer (some ⟨BL,2,none⟩):=op_tmp hA hp 141 11 (by kernel_rfl) (by kernel_rfl) (by kernel_rfl) (hz _ rfl)
   have hw:Region.wanted o (yielded (regOf Tryz.f19 13) A.tmps)=true:=wanted_free hg
   have e0:=(World.cell?_of_block (a:=⟨BL,2,none⟩) (hC.block BL hBL)).trans hBL2
   refine step_pure (v:=.slice br nb cb) hk hC hw ?_ rfl
   unfold execOp
   simp only [ho1]
   generalize A.eval=ρ at x141 ⊢
   simp [go_sem,x141,e0]
 | 13,_ =>
   have ho1:=opIs ho (p:=.move (.tmp 10)) (by kernel_rfl)
   have hg:=guardIs ho (p:=none) (by kernel_rfl)
   intro e A w hA hC hp K hk
   have x10:A.eval (.tmp 10) = .int .i64 (k:Int):=filled_base hA (by kernel_rfl) b10
   have hw:Region.wanted o (yielded (regOf Tryz.f19 13) A.tmps)=true:=wanted_free hg
   exact step_pure hk hC hw (run_move ho1 x10 w) rfl
 | 14,_ =>
   have ho1:=opIs ho (p:=.slice 22 (.tmp 142) (some (.tmp 143)) none none) (by kernel_rfl)
   have hg:=guardIs ho (p:=none) (by kernel_rfl)
   intro e A w hA hC hp K hk
   have x142:A.eval (.tmp 142) = .slice br nb cb:=op_tmp hA hp 142 12 (by kernel_rfl) (by kernel_rfl) (by kernel_rfl) (hz _ rfl)
   have x143:A.eval (.tmp 143) = .int .i64 (k:Int):=op_tmp hA hp 143 13 (by kernel_rfl) (by kernel_rfl) (by kernel_rfl) (hz _ rfl)
   have hw:Region.wanted o (yielded (regOf Tryz.f19 13) A.tmps)=true:=wanted_free hg
   refine step_pure (v:=.slice sr sn sc) hk hC hw ?_ rfl
   unfold execOp
   simp only [ho1]
   generalize A.eval=ρ at x142 x143 ⊢
   simp [go_sem,x142,x143,hcut]
 | 15,_ =>
   have ho1:=opIs ho (p:=.call { callee:=(.value (.func 55)),args:=#[(.tmp 144)],argTypes:=#[22] }) (by kernel_rfl)
   have hg:=guardIs ho (p:=none) (by kernel_rfl)
   intro e A w hA hC hp K hk
   have x144:A.eval (.tmp 144) = .slice sr sn sc:=op_tmp hA hp 144 14 (by kernel_rfl) (by kernel_rfl) (by kernel_rfl) (hz _ rfl)
   have hw:Region.wanted o (yielded (regOf Tryz.f19 13) A.tmps)=true:=wanted_free hg
   refine step_call (f:=55) (args:=#[.slice sr sn sc]) hk hw ?_ ?_
   ·unfold execOp
    simp only [ho1]
    have xf:∀ f,A.eval (.func f) = .func (.func f) #[] #[]:=fun _=>rfl
    generalize A.eval=ρ at x144 xf ⊢
    simp [go_sem,xf,x144]
   ·refine (wrecs_any sr sn sc rs w (hrs.keep hC) hnr).mono ?_
    rintro en w' ⟨ra,rc,rfl,hat,hb'⟩
    exact⟨_,rfl,⟨ra,rc,rfl,V.At.move (fun p hp=>⟨Nat.le_trans hC.size hp.1,hp.2⟩) (fun _ _=>rfl) _ _ hat⟩,below_then hC hb' hC.size,fun j u _ _ _ _ h=>wcg_keep BH BL tm vo ba k M br nb cb sr sn sc rs P1 P2 w1 j u w _ hb' h⟩
 | 16,_ =>
   have ho1:=opIs ho (p:=.buildSlice 68 4 #[(0,(.tmp 132)),(1,(.tmp 135)),(2,(.tmp 140)),(3,(.tmp 145))]) (by kernel_rfl)
   have hg:=guardIs ho (p:=none) (by kernel_rfl)
   intro e A w hA hC hp K hk
   have x132:A.eval (.tmp 132) = .agg #[.int .i64 1,.int .i64 tm,.string ⟨#[]⟩,.slice none 0 0]:=op_tmp hA hp 132 2 (by kernel_rfl) (by kernel_rfl) (by kernel_rfl) (hz _ rfl)
   have x135:A.eval (.tmp 135) = .agg #[.int .i64 1,.int .i64 vo,.string ⟨#[]⟩,.slice none 0 0]:=op_tmp hA hp 135 5 (by kernel_rfl) (by kernel_rfl) (by kernel_rfl) (hz _ rfl)
   have x140:A.eval (.tmp 140) = .agg #[.int .i64 1,.int .i64 M,.string ⟨#[]⟩,.slice none 0 0]:=op_tmp hA hp 140 10 (by kernel_rfl) (by kernel_rfl) (by kernel_rfl) (hz _ rfl)
   have x145:=op_tmp hA hp 145 15 (by kernel_rfl) (by kernel_rfl) (by kernel_rfl) (hz _ rfl)
   have hw:Region.wanted o (yielded (regOf Tryz.f19 13) A.tmps)=true:=wanted_free hg
   obtain⟨ra,rc,x145,h1⟩:=x145
   refine step_value (v:=.slice (some ⟨w.heap.size,0,none⟩) 4 4) (w':=w.alloc (.cells #[.int .i64 1,.int .i64 tm,.string ⟨#[]⟩,.slice none 0 0,.int .i64 1,.int .i64 vo,.string ⟨#[]⟩,.slice none 0 0,.int .i64 1,.int .i64 M,.string ⟨#[]⟩,.slice none 0 0,.int .i64 3,.int .i64 0,.string ⟨#[]⟩,.slice ra sn rc] 70)) hk hw ?_ ?_ ?_ ?_
   ·unfold execOp
    simp only [ho1]
    generalize A.eval=ρ at x132 x135 x140 x145 ⊢
    simp [go_sem,x132,x135,x140,x145]
   ·exact⟨ra,rc,w.heap.size,rfl,V.At.move (fun p hp=>⟨hp.1,Nat.lt_of_lt_of_le hp.2 (World.grownBy_alloc w _ none).size⟩) (fun p hp=>heap_alloc_old w _ hp.2) _ _ h1,hC.size,heap_alloc_new w _⟩
   ·exact hC.alloc hC.size _
   ·intro j u _ _ _ _ h
    exact wcg_keep BH BL tm vo ba k M br nb cb sr sn sc rs P1 P2 w1 j u w _ ((Below.refl _ w).alloc (Nat.le_refl _) _) h
 | 17,_ =>
   have ho1:=opIs ho (p:=.build 70 #[(0,(.const (.int .i64 3))),(3,(.tmp 146))]) (by kernel_rfl)
   have hg:=guardIs ho (p:=none) (by kernel_rfl)
   intro e A w hA hC hp K hk
   have x146:=op_tmp hA hp 146 16 (by kernel_rfl) (by kernel_rfl) (by kernel_rfl) (hz _ rfl)
   have hw:Region.wanted o (yielded (regOf Tryz.f19 13) A.tmps)=true:=wanted_free hg
   obtain⟨ra,rc,c,x146,h1,h2,h3⟩:=x146
   refine step_pure (v:=.agg #[.int .i64 3,.int .i64 0,.string ⟨#[]⟩,.slice (some ⟨c,0,none⟩) 4 4]) hk hC hw ?_ ⟨ra,rc,c,rfl,h1,h2,h3⟩
   unfold execOp
   simp only [ho1]
   have xc:∀ v,A.eval (.const v)=v:=fun _=>rfl
   generalize A.eval=ρ at x146 xc ⊢
   simp [go_sem,x146,xc]
 | 18,_ =>
   have ho1:=opIs ho (p:=.call { callee:=(.value (.func 36)),args:=#[(.tmp 147)],argTypes:=#[70] }) (by kernel_rfl)
   have hg:=guardIs ho (p:=none) (by kernel_rfl)
   intro e A w hA hC hp K hk
   have x147:=op_tmp hA hp 147 17 (by kernel_rfl) (by kernel_rfl) (by kernel_rfl) (hz _ rfl)
   have hw:Region.wanted o (yielded (regOf Tryz.f19 13) A.tmps)=true:=wanted_free hg
   obtain⟨ra,rc,c,x147,h1,h2,h3⟩:=x147
   have hat:V.At w (fun p=>p<w.heap.size) (listV [numV tm,numV vo,numV M,listV (rs.map recV)]) [.int .i64 3,.int .i64 0,.string ⟨#[]⟩,.slice (some ⟨c,0,none⟩) 4 4]:=by
    have g1:=V.At.move (w':=w) (T:=fun p=>p<w.heap.size) (fun p hp=>hp.2) (fun _ _=>rfl) _ _ h1
    have hrow:=(((RowOf.nil.snoc (numV_at w (fun p=>p<w.heap.size) tm)).snoc (numV_at w _ vo)).snoc (numV_at w _ M)).snoc g1
    exact listV_at (lt_of_block h3) hrow h3 rfl
   refine step_call (f:=36) (args:=#[.agg #[.int .i64 3,.int .i64 0,.string ⟨#[]⟩,.slice (some ⟨c,0,none⟩) 4 4]]) hk hw ?_ ?_
   ·unfold execOp
    simp only [ho1]
    have xf:∀ f,A.eval (.func f) = .func (.func f) #[] #[]:=fun _=>rfl
    generalize A.eval=ρ at x147 xf ⊢
    simp [go_sem,xf,x147]
   ·refine (hput w _ hC hat).mono ?_
    rintro en w' ⟨rfl,hb'⟩
    exact⟨_,rfl,rfl,below_then hC hb' hC.size,fun j u _ _ _ _ h=>wcg_keep BH BL tm vo ba k M br nb cb sr sn sc rs P1 P2 w1 j u w _ hb' h⟩
 | 19,_ =>
   have ho1:=opIs ho (p:=.move (.tmp 148)) (by kernel_rfl)
   have hg:=guardIs ho (p:=none) (by kernel_rfl)
   intro e A w hA hC hp K hk
   have x148:A.eval (.tmp 148) = .tuple #[.string P1,.int .i64 P2]:=op_tmp hA hp 148 18 (by kernel_rfl) (by kernel_rfl) (by kernel_rfl) (hz _ rfl)
   have hw:Region.wanted o (yielded (regOf Tryz.f19 13) A.tmps)=true:=wanted_free hg
   exact step_pure hk hC hw (run_move ho1 x148 w) rfl
 | 20,_ =>
   have ho1:=opIs ho (p:=.extract (.tmp 129) 0) (by kernel_rfl)
   have hg:=guardIs ho (p:=none) (by kernel_rfl)
   intro e A w hA hC hp K hk
   have x129:A.eval (.tmp 129) = .tuple #[.string P1,.int .i64 P2]:=op_tmp hA hp 129 19 (by kernel_rfl) (by kernel_rfl) (by kernel_rfl) (hz _ rfl)
   have hw:Region.wanted o (yielded (regOf Tryz.f19 13) A.tmps)=true:=wanted_free hg
   exact step_pure hk hC hw (run_extract ho1 x129 rfl w) rfl
 | 21,_ =>
   have ho1:=opIs ho (p:=.extract (.tmp 129) 1) (by kernel_rfl)
   have hg:=guardIs ho (p:=none) (by kernel_rfl)
   intro e A w hA hC hp K hk
   have x129:A.eval (.tmp 129) = .tuple #[.string P1,.int .i64 P2]:=op_tmp hA hp 129 19 (by kernel_rfl) (by kernel_rfl) (by kernel_rfl) (hz _ rfl)
   have hw:Region.wanted o (yielded (regOf Tryz.f19 13) A.tmps)=true:=wanted_free hg
   exact step_pure hk hC hw (run_extract ho1 x129 rfl w) rfl
 | 22,_ =>
   have ho1:=opIs ho (p:=.assign (.tmp 149)) (by kernel_rfl)
   have hg:=guardIs ho (p:=none) (by kernel_rfl)
   intro e A w hA hC hp K hk
   have x149:A.eval (.tmp 149) = .string P1:=op_tmp hA hp 149 20 (by kernel_rfl) (by kernel_rfl) (by kernel_rfl) (hz _ rfl)
   have hw:Region.wanted o (yielded (regOf Tryz.f19 13) A.tmps)=true:=wanted_free hg
   exact step_pure hk hC hw (run_assign ho1 x149 w) rfl
 | 23,_ =>
   have ho1:=opIs ho (p:=.assign (.tmp 150)) (by kernel_rfl)
   have hg:=guardIs ho (p:=none) (by kernel_rfl)
   intro e A w hA hC hp K hk
   have x150:A.eval (.tmp 150) = .int .i64 P2:=op_tmp hA hp 150 21 (by kernel_rfl) (by kernel_rfl) (by kernel_rfl) (hz _ rfl)
   have hw:Region.wanted o (yielded (regOf Tryz.f19 13) A.tmps)=true:=wanted_free hg
   exact step_pure hk hC hw (run_assign ho1 x150 w) rfl
 | _+24,h=>exact absurd h (by omega)
theorem cut_recs {a:Option Addr}{n c k:Nat}{l:List Rc}(hl:n=l.length) (hk:k≤n) (hc:n≤c) {w0:World}(h0:rcE.Sl w0 a n l):∃ a':Option Addr,(∀ w,(Instr.sliceAt 22 (.slice a n c) (some (.int .i64 (k:Int))) none none).run Tryz.prog w = .ok (.slice a' (n - k) (c - k)) w)∧∀ w,rcE.Sl w a n l→rcE.Sl w a' (n - k) (l.drop k):=by
 have u:=Tryz.underlying22
 by_cases hn:n=0
 ·subst hn
  obtain rfl:k=0:=by omega
  obtain rfl:l=[]:=List.eq_nil_of_length_eq_zero hl.symm
  rcases a with - | ⟨b,off,sp⟩
  ·exact⟨none,fun w=>by simp [go_sem],fun w h=>h⟩
  ·exact⟨_,fun w=>by simp [go_sem]; rfl,fun w h=>Enc.Sl.nil _ _⟩
 ·rcases h0.2 with h1 | ⟨b,off,rfl,-⟩
  ·subst h1; exact absurd hl hn
  ·by_cases hck:c=k
   ·refine⟨some ⟨b,off,none⟩,fun w=>by simp [go_sem,hk,hck],fun w h=>?_⟩
    obtain rfl:k=n:=by omega
    rw [List.drop_of_length_le (by omega),Nat.sub_self]
    exact Enc.Sl.nil _ _
   ·exact⟨some ⟨b,off+k*3,none⟩,fun w=>by simp [go_sem,hk,hck],fun w h=>h.drop hk⟩
end Go.Proofs.YtlpgbmaoenncjaaGreatDoor

/-
  The regions of wal.value and of the reference's Bytes. (Written by wip/mkwv.py.)
-/
import Derived.Test.YtlpgbmaoenncjaaGreatDoorWvA
namespace Go.Proofs.YtlpgbmaoenncjaaGreatDoor
open Go.RowKit
set_option linter.unusedVariables false
def wvnT (base bx:Nat) (x:Int) (va:Option Addr) (vc:Nat) (acc:List V) (cells:List Value) (w1:World):Nat→Value→World→Prop
 | 0,v,w=>v = .pointer (some ⟨bx,3,none⟩)
 | 1,v,w=>v = .slice va acc.length vc
 | 2,v,w=>v = .int .i64 x
 | 3,v,w=>v = .agg #[.int .i64 1,.int .i64 x,.string ⟨#[]⟩,.slice none 0 0]
 | 4,v,w=>∃ c,v = .slice (some ⟨c,0,none⟩) 1 1∧w.heap[c]? = some (.cells #[.int .i64 1,.int .i64 x,.string ⟨#[]⟩,.slice none 0 0] 70 (0,0))
 | 5,v,w=>∃ a3 c3 cells3,v = .slice a3 (acc.length+[numV x].length) c3∧MadeB base bx acc [numV x] va vc a3 c3 cells3 w
 | 6,v,w=>v = .pointer (some ⟨bx,3,none⟩)
 | _,_,_=>True
def wvnD:Nat→List Nat
 | 5=>[4]
 | _=>[]
theorem wvn_keep (base bx:Nat) (x:Int) (va:Option Addr) (vc:Nat) (acc:List V) (cells:List Value) (w1:World):∀ (j:Nat) (u:Value) (w w':World),Below w.heap.size w w'→(wvnT base bx x va vc acc cells w1) j u w→(wvnT base bx x va vc acc cells w1) j u w'
 | 4,u,w,w',hb,h=>by obtain⟨c,rfl,h3⟩:=h; exact⟨c,rfl,(hb.block _ (lt_of_block h3)).trans h3⟩
 | 5,u,w,w',hb,h=>by obtain⟨a3,c3,cells3,rfl,h1⟩:=h; exact⟨a3,c3,cells3,rfl,h1.under hb⟩
 | 0,u,w,w',hb,h=>h
 | 1,u,w,w',hb,h=>h
 | 2,u,w,w',hb,h=>h
 | 3,u,w,w',hb,h=>h
 | 6,u,w,w',hb,h=>h
 | _+7,u,w,w',hb,h=>trivial
set_option maxHeartbeats 4000000 in
theorem wvn_steps (base bx:Nat) (x:Int) (va:Option Addr) (vc:Nat) (acc:List V) (cells:List Value) (w1:World) (hbw:base≤w1.heap.size) (hvl:∀ k,(Value.slice va acc.length vc).ownBlock=some k→k<w1.heap.size) (hn:acc.length≤1000000) (hV:Tryz.prog.underlying 68 = some (.slice 70)) {a:Act}(hs:a.tmps.size=46) (b3:a.eval (.tmp 3) = .pointer (some ⟨bx,0,none⟩)) (b5:a.eval (.tmp 5) = .int .i64 x):∀ i o,i<7→(regOf Tryz.f67 5)[i]? = some o→StepOkE Tryz.prog (regOf Tryz.f67 5) a (fun e w=>(fun w=>w1.grownBy w (Value.slice va acc.length vc).ownBlock) w∧(e 5=none→(fun w=>MakingB base bx acc va vc cells w) w)) (wvnT base bx x va vc acc cells w1) wvnD i o:=by
 have hz:∀ t,Nat.blt t 46=true→Nat.blt t a.tmps.size=true:=fun t h=>by rw [hs]; exact h
 have hsz:(regOf Tryz.f67 5).size=8:=by kernel_rfl
 intro i o hii ho
 match i,hii with
 | 0,_ =>
   have ho1:=opIs ho (p:=.fieldAddr 70 (.tmp 3) 3) (by kernel_rfl)
   have hg:=guardIs ho (p:=none) (by kernel_rfl)
   intro e A w hA hC hp hup K hk
   have hM:=hC.2 (hup 5 (by kernel_rfl))
   replace hC:=hC.1
   replace hk:Next (regOf Tryz.f67 5) (fun w=>(fun w=>w1.grownBy w (Value.slice va acc.length vc).ownBlock) w∧(fun w=>MakingB base bx acc va vc cells w) w) (wvnT base bx x va vc acc cells w1) wvnD 0 e A w o.dst K:=hk.next fun v w h=>⟨h.1,fun _=>h.2⟩
   have hCM:=And.intro hC hM
   have x3:A.eval (.tmp 3) = .pointer (some ⟨bx,0,none⟩):=filled_base hA (by kernel_rfl) b3
   have hw:Region.wanted o (yielded (regOf Tryz.f67 5) A.tmps)=true:=wanted_free hg
   refine step_pure (v:=.pointer (some ⟨bx,3,none⟩)) hk hCM hw ?_ rfl
   unfold execOp
   simp only [ho1]
   generalize A.eval=ρ at x3 ⊢
   simp [go_sem,x3]
 | 1,_ =>
   have ho1:=opIs ho (p:=.load 68 (.tmp 14)) (by kernel_rfl)
   have hg:=guardIs ho (p:=none) (by kernel_rfl)
   intro e A w hA hC hp hup K hk
   have hM:=hC.2 (hup 5 (by kernel_rfl))
   replace hC:=hC.1
   replace hk:Next (regOf Tryz.f67 5) (fun w=>(fun w=>w1.grownBy w (Value.slice va acc.length vc).ownBlock) w∧(fun w=>MakingB base bx acc va vc cells w) w) (wvnT base bx x va vc acc cells w1) wvnD 1 e A w o.dst K:=hk.next fun v w h=>⟨h.1,fun _=>h.2⟩
   have hCM:=And.intro hC hM
   have x14:A.eval (.tmp 14) = .pointer (some ⟨bx,3,none⟩):=op_tmp hA hp 14 0 (by kernel_rfl) (by kernel_rfl) (by kernel_rfl) (hz _ rfl)
   have hw:Region.wanted o (yielded (regOf Tryz.f67 5) A.tmps)=true:=wanted_free hg
   have e1:=hM.box.c3
   refine step_pure (v:=.slice va acc.length vc) hk hCM hw ?_ rfl
   unfold execOp
   simp only [ho1]
   generalize A.eval=ρ at x14 ⊢
   simp [go_sem,x14,e1]
 | 2,_ =>
   have ho1:=opIs ho (p:=.move (.tmp 5)) (by kernel_rfl)
   have hg:=guardIs ho (p:=none) (by kernel_rfl)
   intro e A w hA hC hp hup K hk
   have hM:=hC.2 (hup 5 (by kernel_rfl))
   replace hC:=hC.1
   replace hk:Next (regOf Tryz.f67 5) (fun w=>(fun w=>w1.grownBy w (Value.slice va acc.length vc).ownBlock) w∧(fun w=>MakingB base bx acc va vc cells w) w) (wvnT base bx x va vc acc cells w1) wvnD 2 e A w o.dst K:=hk.next fun v w h=>⟨h.1,fun _=>h.2⟩
   have hCM:=And.intro hC hM
   have x5:A.eval (.tmp 5) = .int .i64 x:=filled_base hA (by kernel_rfl) b5
   have hw:Region.wanted o (yielded (regOf Tryz.f67 5) A.tmps)=true:=wanted_free hg
   exact step_pure hk hCM hw (run_move ho1 x5 w) rfl
 | 3,_ =>
   have ho1:=opIs ho (p:=.call { callee:=(.value (.func 54)),args:=#[(.tmp 16)],argTypes:=#[3] }) (by kernel_rfl)
   have hg:=guardIs ho (p:=none) (by kernel_rfl)
   intro e A w hA hC hp hup K hk
   have hM:=hC.2 (hup 5 (by kernel_rfl))
   replace hC:=hC.1
   replace hk:Next (regOf Tryz.f67 5) (fun w=>(fun w=>w1.grownBy w (Value.slice va acc.length vc).ownBlock) w∧(fun w=>MakingB base bx acc va vc cells w) w) (wvnT base bx x va vc acc cells w1) wvnD 3 e A w o.dst K:=hk.next fun v w h=>⟨h.1,fun _=>h.2⟩
   have hCM:=And.intro hC hM
   have x16:A.eval (.tmp 16) = .int .i64 x:=op_tmp hA hp 16 2 (by kernel_rfl) (by kernel_rfl) (by kernel_rfl) (hz _ rfl)
   have hw:Region.wanted o (yielded (regOf Tryz.f67 5) A.tmps)=true:=wanted_free hg
   refine step_call (f:=54) (args:=#[.int .i64 x]) hk hw ?_ ?_
   ·unfold execOp
    simp only [ho1]
    have xf:∀ f,A.eval (.func f) = .func (.func f) #[] #[]:=fun _=>rfl
    generalize A.eval=ρ at x16 xf ⊢
    simp [go_sem,xf,x16]
   ·refine (wnum_any x w).mono ?_
    rintro en w' ⟨rfl,hb'⟩
    exact⟨_,rfl,rfl,⟨grown_trans hC (grown_of_below hb' _),hM.under hb'⟩,fun j u _ _ _ _ h=>wvn_keep base bx x va vc acc cells w1 j u w _ hb' h⟩
 | 4,_ =>
   have ho1:=opIs ho (p:=.buildSlice 68 1 #[(0,(.tmp 17))]) (by kernel_rfl)
   have hg:=guardIs ho (p:=none) (by kernel_rfl)
   intro e A w hA hC hp hup K hk
   have hM:=hC.2 (hup 5 (by kernel_rfl))
   replace hC:=hC.1
   replace hk:Next (regOf Tryz.f67 5) (fun w=>(fun w=>w1.grownBy w (Value.slice va acc.length vc).ownBlock) w∧(fun w=>MakingB base bx acc va vc cells w) w) (wvnT base bx x va vc acc cells w1) wvnD 4 e A w o.dst K:=hk.next fun v w h=>⟨h.1,fun _=>h.2⟩
   have hCM:=And.intro hC hM
   have x17:A.eval (.tmp 17) = .agg #[.int .i64 1,.int .i64 x,.string ⟨#[]⟩,.slice none 0 0]:=op_tmp hA hp 17 3 (by kernel_rfl) (by kernel_rfl) (by kernel_rfl) (hz _ rfl)
   have hw:Region.wanted o (yielded (regOf Tryz.f67 5) A.tmps)=true:=wanted_free hg
   refine step_value (v:=.slice (some ⟨w.heap.size,0,none⟩) 1 1) (w':=w.alloc (.cells #[.int .i64 1,.int .i64 x,.string ⟨#[]⟩,.slice none 0 0] 70)) hk hw ?_ ?_ ?_ ?_
   ·unfold execOp
    simp only [ho1]
    generalize A.eval=ρ at x17 ⊢
    simp [go_sem,x17]
   ·exact⟨w.heap.size,rfl,heap_alloc_new w _⟩
   ·exact⟨grown_trans hC (World.grownBy_alloc w _ _),hM.under ((Below.refl _ w).alloc (Nat.le_refl _) _)⟩
   ·intro j u _ _ _ _ h
    exact wvn_keep base bx x va vc acc cells w1 j u w _ ((Below.refl _ w).alloc (Nat.le_refl _) _) h
 | 5,_ =>
   have ho1:=opIs ho (p:=.call { callee:=(.builtin .append),args:=#[(.tmp 15),(.tmp 18)],argTypes:=#[68,68] }) (by kernel_rfl)
   have hg:=guardIs ho (p:=none) (by kernel_rfl)
   intro e A w hA hC hp hup K hk
   have hM:=hC.2 (hup 5 (by kernel_rfl))
   have x15:A.eval (.tmp 15) = .slice va acc.length vc:=op_tmp hA hp 15 1 (by kernel_rfl) (by kernel_rfl) (by kernel_rfl) (hz _ rfl)
   have x18:=op_tmp hA hp 18 4 (by kernel_rfl) (by kernel_rfl) (by kernel_rfl) (hz _ rfl)
   have hw:Region.wanted o (yielded (regOf Tryz.f67 5) A.tmps)=true:=wanted_free hg
   obtain⟨c,x18,h3⟩:=x18
   have hat:V.At w (fun p=>w1.heap.size≤p∧p<w.heap.size) (numV x) [.int .i64 1,.int .i64 x,.string ⟨#[]⟩,.slice none 0 0]:=by
    simp only [numV,V.At,VAll]
    exact⟨none,0,rfl,Nat.le_refl _,fun _=>rfl,trivial⟩
   have hrw:RowOf w (fun p=>w1.heap.size≤p∧p<w.heap.size) [numV x] [.int .i64 1,.int .i64 x,.string ⟨#[]⟩,.slice none 0 0]:=by have:=RowOf.snoc RowOf.nil hat; exact this
   obtain⟨a3,c3,cells3,w',hr,hg,hmade⟩:=makingB_append hM [numV x] _ 1 c w1.heap.size _ 68 o.type hV h3 rfl hrw hbw hvl (by decide) (by decide) hn
   rw [if_pos hw]
   unfold Oper.wp
   rw [show (execOp A.eval o).run Tryz.prog w = .ok (.value (.slice a3 (acc.length+[numV x].length) c3)) w' by
    unfold execOp
    simp only [ho1,resolve,invoke,builtin,Sem.run_bind,Sem.run_pure,Result.andThen_ok,List.map_toArray,List.map_cons,List.map_nil,x15,x18,hr]]
   refine hk _ _ ⟨a3,c3,cells3,rfl,hmade⟩ ⟨grown_trans hC.1 hg,fun h=>by rw [Vals.set_same] at h; cases h⟩ ?_
   intro j u hj hji _ hd h
   match j,h with
   | 0,h=>exact h
   | 1,h=>exact h
   | 2,h=>exact h
   | 3,h=>exact h
   | 4,h=>exact absurd rfl (hd 5 (by rw [hsz]; decide) rfl).1
   | 5,h=>exact absurd rfl hji
   | 6,h=>exact h
   | _+7,h=>trivial
 | 6,_ =>
   have ho1:=opIs ho (p:=.fieldAddr 70 (.tmp 3) 3) (by kernel_rfl)
   have hg:=guardIs ho (p:=none) (by kernel_rfl)
   intro e A w hA hC hp hup K hk
   replace hk:Next (regOf Tryz.f67 5) (fun w=>(fun w=>w1.grownBy w (Value.slice va acc.length vc).ownBlock) w∧(e 5=none→(fun w=>MakingB base bx acc va vc cells w) w)) (wvnT base bx x va vc acc cells w1) wvnD 6 e A w o.dst K:=hk.next fun v w h=>⟨h.1,fun he=>h.2 (by rwa [Vals.set_other e v (by decide)] at he)⟩
   have hCM:=hC
   have x3:A.eval (.tmp 3) = .pointer (some ⟨bx,0,none⟩):=filled_base hA (by kernel_rfl) b3
   have hw:Region.wanted o (yielded (regOf Tryz.f67 5) A.tmps)=true:=wanted_free hg
   refine step_pure (v:=.pointer (some ⟨bx,3,none⟩)) hk hCM hw ?_ rfl
   unfold execOp
   simp only [ho1]
   generalize A.eval=ρ at x3 ⊢
   simp [go_sem,x3]
 | _+7,h=>exact absurd h (by omega)
def rvnT (base bx:Nat) (x:Int) (va:Option Addr) (vc:Nat) (acc:List V) (cells:List Value) (w1:World):Nat→Value→World→Prop
 | 0,v,w=>v = .pointer (some ⟨bx,3,none⟩)
 | 1,v,w=>v = .slice va acc.length vc
 | 2,v,w=>v = .int .i64 x
 | 3,v,w=>v = .agg #[.int .i64 1,.int .i64 x,.string ⟨#[]⟩,.slice none 0 0]
 | 4,v,w=>∃ c,v = .slice (some ⟨c,0,none⟩) 1 1∧w.heap[c]? = some (.cells #[.int .i64 1,.int .i64 x,.string ⟨#[]⟩,.slice none 0 0] 70 (0,0))
 | 5,v,w=>∃ a3 c3 cells3,v = .slice a3 (acc.length+[numV x].length) c3∧MadeB base bx acc [numV x] va vc a3 c3 cells3 w
 | 6,v,w=>v = .pointer (some ⟨bx,3,none⟩)
 | _,_,_=>True
def rvnD:Nat→List Nat
 | 5=>[4]
 | _=>[]
theorem rvn_keep (base bx:Nat) (x:Int) (va:Option Addr) (vc:Nat) (acc:List V) (cells:List Value) (w1:World):∀ (j:Nat) (u:Value) (w w':World),Below w.heap.size w w'→(rvnT base bx x va vc acc cells w1) j u w→(rvnT base bx x va vc acc cells w1) j u w'
 | 4,u,w,w',hb,h=>by obtain⟨c,rfl,h3⟩:=h; exact⟨c,rfl,(hb.block _ (lt_of_block h3)).trans h3⟩
 | 5,u,w,w',hb,h=>by obtain⟨a3,c3,cells3,rfl,h1⟩:=h; exact⟨a3,c3,cells3,rfl,h1.under hb⟩
 | 0,u,w,w',hb,h=>h
 | 1,u,w,w',hb,h=>h
 | 2,u,w,w',hb,h=>h
 | 3,u,w,w',hb,h=>h
 | 6,u,w,w',hb,h=>h
 | _+7,u,w,w',hb,h=>trivial
set_option maxHeartbeats 4000000 in
theorem rvn_steps (base bx:Nat) (x:Int) (va:Option Addr) (vc:Nat) (acc:List V) (cells:List Value) (w1:World) (hbw:base≤w1.heap.size) (hvl:∀ k,(Value.slice va acc.length vc).ownBlock=some k→k<w1.heap.size) (hn:acc.length≤1000000) (hV:Tryz.prog.underlying 68 = some (.slice 70)) {a:Act}(hs:a.tmps.size=86) (b4:a.eval (.tmp 4) = .pointer (some ⟨bx,0,none⟩)) (b6:a.eval (.tmp 6) = .int .i64 x):∀ i o,i<7→(regOf Tryz.f107 7)[i]? = some o→StepOkE Tryz.prog (regOf Tryz.f107 7) a (fun e w=>(fun w=>w1.grownBy w (Value.slice va acc.length vc).ownBlock) w∧(e 5=none→(fun w=>MakingB base bx acc va vc cells w) w)) (rvnT base bx x va vc acc cells w1) rvnD i o:=by
 have hz:∀ t,Nat.blt t 86=true→Nat.blt t a.tmps.size=true:=fun t h=>by rw [hs]; exact h
 have hsz:(regOf Tryz.f107 7).size=8:=by kernel_rfl
 intro i o hii ho
 match i,hii with
 | 0,_ =>
   have ho1:=opIs ho (p:=.fieldAddr 70 (.tmp 4) 3) (by kernel_rfl)
   have hg:=guardIs ho (p:=none) (by kernel_rfl)
   intro e A w hA hC hp hup K hk
   have hM:=hC.2 (hup 5 (by kernel_rfl))
   replace hC:=hC.1
   replace hk:Next (regOf Tryz.f107 7) (fun w=>(fun w=>w1.grownBy w (Value.slice va acc.length vc).ownBlock) w∧(fun w=>MakingB base bx acc va vc cells w) w) (rvnT base bx x va vc acc cells w1) rvnD 0 e A w o.dst K:=hk.next fun v w h=>⟨h.1,fun _=>h.2⟩
   have hCM:=And.intro hC hM
   have x4:A.eval (.tmp 4) = .pointer (some ⟨bx,0,none⟩):=filled_base hA (by kernel_rfl) b4
   have hw:Region.wanted o (yielded (regOf Tryz.f107 7) A.tmps)=true:=wanted_free hg
   refine step_pure (v:=.pointer (some ⟨bx,3,none⟩)) hk hCM hw ?_ rfl
   unfold execOp
   simp only [ho1]
   generalize A.eval=ρ at x4 ⊢
   simp [go_sem,x4]
 | 1,_ =>
   have ho1:=opIs ho (p:=.load 68 (.tmp 47)) (by kernel_rfl)
   have hg:=guardIs ho (p:=none) (by kernel_rfl)
   intro e A w hA hC hp hup K hk
   have hM:=hC.2 (hup 5 (by kernel_rfl))
   replace hC:=hC.1
   replace hk:Next (regOf Tryz.f107 7) (fun w=>(fun w=>w1.grownBy w (Value.slice va acc.length vc).ownBlock) w∧(fun w=>MakingB base bx acc va vc cells w) w) (rvnT base bx x va vc acc cells w1) rvnD 1 e A w o.dst K:=hk.next fun v w h=>⟨h.1,fun _=>h.2⟩
   have hCM:=And.intro hC hM
   have x47:A.eval (.tmp 47) = .pointer (some ⟨bx,3,none⟩):=op_tmp hA hp 47 0 (by kernel_rfl) (by kernel_rfl) (by kernel_rfl) (hz _ rfl)
   have hw:Region.wanted o (yielded (regOf Tryz.f107 7) A.tmps)=true:=wanted_free hg
   have e1:=hM.box.c3
   refine step_pure (v:=.slice va acc.length vc) hk hCM hw ?_ rfl
   unfold execOp
   simp only [ho1]
   generalize A.eval=ρ at x47 ⊢
   simp [go_sem,x47,e1]
 | 2,_ =>
   have ho1:=opIs ho (p:=.move (.tmp 6)) (by kernel_rfl)
   have hg:=guardIs ho (p:=none) (by kernel_rfl)
   intro e A w hA hC hp hup K hk
   have hM:=hC.2 (hup 5 (by kernel_rfl))
   replace hC:=hC.1
   replace hk:Next (regOf Tryz.f107 7) (fun w=>(fun w=>w1.grownBy w (Value.slice va acc.length vc).ownBlock) w∧(fun w=>MakingB base bx acc va vc cells w) w) (rvnT base bx x va vc acc cells w1) rvnD 2 e A w o.dst K:=hk.next fun v w h=>⟨h.1,fun _=>h.2⟩
   have hCM:=And.intro hC hM
   have x6:A.eval (.tmp 6) = .int .i64 x:=filled_base hA (by kernel_rfl) b6
   have hw:Region.wanted o (yielded (regOf Tryz.f107 7) A.tmps)=true:=wanted_free hg
   exact step_pure hk hCM hw (run_move ho1 x6 w) rfl
 | 3,_ =>
   have ho1:=opIs ho (p:=.call { callee:=(.value (.func 108)),args:=#[(.tmp 49)],argTypes:=#[3] }) (by kernel_rfl)
   have hg:=guardIs ho (p:=none) (by kernel_rfl)
   intro e A w hA hC hp hup K hk
   have hM:=hC.2 (hup 5 (by kernel_rfl))
   replace hC:=hC.1
   replace hk:Next (regOf Tryz.f107 7) (fun w=>(fun w=>w1.grownBy w (Value.slice va acc.length vc).ownBlock) w∧(fun w=>MakingB base bx acc va vc cells w) w) (rvnT base bx x va vc acc cells w1) rvnD 3 e A w o.dst K:=hk.next fun v w h=>⟨h.1,fun _=>h.2⟩
   have hCM:=And.intro hC hM
   have x49:A.eval (.tmp 49) = .int .i64 x:=op_tmp hA hp 49 2 (by kernel_rfl) (by kernel_rfl) (by kernel_rfl) (hz _ rfl)
   have hw:Region.wanted o (yielded (regOf Tryz.f107 7) A.tmps)=true:=wanted_free hg
   refine step_call (f:=108) (args:=#[.int .i64 x]) hk hw ?_ ?_
   ·unfold execOp
    simp only [ho1]
    have xf:∀ f,A.eval (.func f) = .func (.func f) #[] #[]:=fun _=>rfl
    generalize A.eval=ρ at x49 xf ⊢
    simp [go_sem,xf,x49]
   ·refine (rnum14_any x w).mono ?_
    rintro en w' ⟨rfl,hb'⟩
    exact⟨_,rfl,rfl,⟨grown_trans hC (grown_of_below hb' _),hM.under hb'⟩,fun j u _ _ _ _ h=>rvn_keep base bx x va vc acc cells w1 j u w _ hb' h⟩
 | 4,_ =>
   have ho1:=opIs ho (p:=.buildSlice 68 1 #[(0,(.tmp 50))]) (by kernel_rfl)
   have hg:=guardIs ho (p:=none) (by kernel_rfl)
   intro e A w hA hC hp hup K hk
   have hM:=hC.2 (hup 5 (by kernel_rfl))
   replace hC:=hC.1
   replace hk:Next (regOf Tryz.f107 7) (fun w=>(fun w=>w1.grownBy w (Value.slice va acc.length vc).ownBlock) w∧(fun w=>MakingB base bx acc va vc cells w) w) (rvnT base bx x va vc acc cells w1) rvnD 4 e A w o.dst K:=hk.next fun v w h=>⟨h.1,fun _=>h.2⟩
   have hCM:=And.intro hC hM
   have x50:A.eval (.tmp 50) = .agg #[.int .i64 1,.int .i64 x,.string ⟨#[]⟩,.slice none 0 0]:=op_tmp hA hp 50 3 (by kernel_rfl) (by kernel_rfl) (by kernel_rfl) (hz _ rfl)
   have hw:Region.wanted o (yielded (regOf Tryz.f107 7) A.tmps)=true:=wanted_free hg
   refine step_value (v:=.slice (some ⟨w.heap.size,0,none⟩) 1 1) (w':=w.alloc (.cells #[.int .i64 1,.int .i64 x,.string ⟨#[]⟩,.slice none 0 0] 70)) hk hw ?_ ?_ ?_ ?_
   ·unfold execOp
    simp only [ho1]
    generalize A.eval=ρ at x50 ⊢
    simp [go_sem,x50]
   ·exact⟨w.heap.size,rfl,heap_alloc_new w _⟩
   ·exact⟨grown_trans hC (World.grownBy_alloc w _ _),hM.under ((Below.refl _ w).alloc (Nat.le_refl _) _)⟩
   ·intro j u _ _ _ _ h
    exact rvn_keep base bx x va vc acc cells w1 j u w _ ((Below.refl _ w).alloc (Nat.le_refl _) _) h
 | 5,_ =>
   have ho1:=opIs ho (p:=.call { callee:=(.builtin .append),args:=#[(.tmp 48),(.tmp 51)],argTypes:=#[68,68] }) (by kernel_rfl)
   have hg:=guardIs ho (p:=none) (by kernel_rfl)
   intro e A w hA hC hp hup K hk
   have hM:=hC.2 (hup 5 (by kernel_rfl))
   have x48:A.eval (.tmp 48) = .slice va acc.length vc:=op_tmp hA hp 48 1 (by kernel_rfl) (by kernel_rfl) (by kernel_rfl) (hz _ rfl)
   have x51:=op_tmp hA hp 51 4 (by kernel_rfl) (by kernel_rfl) (by kernel_rfl) (hz _ rfl)
   have hw:Region.wanted o (yielded (regOf Tryz.f107 7) A.tmps)=true:=wanted_free hg
   obtain⟨c,x51,h3⟩:=x51
   have hat:V.At w (fun p=>w1.heap.size≤p∧p<w.heap.size) (numV x) [.int .i64 1,.int .i64 x,.string ⟨#[]⟩,.slice none 0 0]:=by
    simp only [numV,V.At,VAll]
    exact⟨none,0,rfl,Nat.le_refl _,fun _=>rfl,trivial⟩
   have hrw:RowOf w (fun p=>w1.heap.size≤p∧p<w.heap.size) [numV x] [.int .i64 1,.int .i64 x,.string ⟨#[]⟩,.slice none 0 0]:=by have:=RowOf.snoc RowOf.nil hat; exact this
   obtain⟨a3,c3,cells3,w',hr,hg,hmade⟩:=makingB_append hM [numV x] _ 1 c w1.heap.size _ 68 o.type hV h3 rfl hrw hbw hvl (by decide) (by decide) hn
   rw [if_pos hw]
   unfold Oper.wp
   rw [show (execOp A.eval o).run Tryz.prog w = .ok (.value (.slice a3 (acc.length+[numV x].length) c3)) w' by
    unfold execOp
    simp only [ho1,resolve,invoke,builtin,Sem.run_bind,Sem.run_pure,Result.andThen_ok,List.map_toArray,List.map_cons,List.map_nil,x48,x51,hr]]
   refine hk _ _ ⟨a3,c3,cells3,rfl,hmade⟩ ⟨grown_trans hC.1 hg,fun h=>by rw [Vals.set_same] at h; cases h⟩ ?_
   intro j u hj hji _ hd h
   match j,h with
   | 0,h=>exact h
   | 1,h=>exact h
   | 2,h=>exact h
   | 3,h=>exact h
   | 4,h=>exact absurd rfl (hd 5 (by rw [hsz]; decide) rfl).1
   | 5,h=>exact absurd rfl hji
   | 6,h=>exact h
   | _+7,h=>trivial
 | 6,_ =>
   have ho1:=opIs ho (p:=.fieldAddr 70 (.tmp 4) 3) (by kernel_rfl)
   have hg:=guardIs ho (p:=none) (by kernel_rfl)
   intro e A w hA hC hp hup K hk
   replace hk:Next (regOf Tryz.f107 7) (fun w=>(fun w=>w1.grownBy w (Value.slice va acc.length vc).ownBlock) w∧(e 5=none→(fun w=>MakingB base bx acc va vc cells w) w)) (rvnT base bx x va vc acc cells w1) rvnD 6 e A w o.dst K:=hk.next fun v w h=>⟨h.1,fun he=>h.2 (by rwa [Vals.set_other e v (by decide)] at he)⟩
   have hCM:=hC
   have x4:A.eval (.tmp 4) = .pointer (some ⟨bx,0,none⟩):=filled_base hA (by kernel_rfl) b4
   have hw:Region.wanted o (yielded (regOf Tryz.f107 7) A.tmps)=true:=wanted_free hg
   refine step_pure (v:=.pointer (some ⟨bx,3,none⟩)) hk hCM hw ?_ rfl
   unfold execOp
   simp only [ho1]
   generalize A.eval=ρ at x4 ⊢
   simp [go_sem,x4]
 | _+7,h=>exact absurd h (by omega)
def wvlT (BH bx:Nat) (tm vo ba bt:Int) (ar:Option Addr) (nr cr:Nat) (rs:List Rc) (sn:ByteArray) (av:Option Addr) (nv cv:Nat) (va:Option Addr) (N vc:Nat) (w1:World):Nat→Value→World→Prop
 | 0,v,w=>v = .pointer (some ⟨BH,0,none⟩)
 | 1,v,w=>v = .int .i64 tm
 | 2,v,w=>v = .agg #[.int .i64 1,.int .i64 tm,.string ⟨#[]⟩,.slice none 0 0]
 | 3,v,w=>v = .pointer (some ⟨BH,1,none⟩)
 | 4,v,w=>v = .int .i64 vo
 | 5,v,w=>v = .agg #[.int .i64 1,.int .i64 vo,.string ⟨#[]⟩,.slice none 0 0]
 | 6,v,w=>v = .pointer (some ⟨BH,2,none⟩)
 | 7,v,w=>v = .pointer (some ⟨BH,2,none⟩)
 | 8,v,w=>v = .int .i64 ba
 | 9,v,w=>v = .agg #[.int .i64 1,.int .i64 ba,.string ⟨#[]⟩,.slice none 0 0]
 | 10,v,w=>v = .pointer (some ⟨BH,2,none⟩)
 | 11,v,w=>v = .pointer (some ⟨BH,3,none⟩)
 | 12,v,w=>v = .int .i64 bt
 | 13,v,w=>v = .agg #[.int .i64 1,.int .i64 bt,.string ⟨#[]⟩,.slice none 0 0]
 | 14,v,w=>v = .pointer (some ⟨BH,5,none⟩)
 | 15,v,w=>v = .string sn
 | 16,v,w=>v = .agg #[.int .i64 2,.int .i64 0,.string sn,.slice none 0 0]
 | 17,v,w=>v = .agg #[.int .i64 3,.int .i64 0,.string ⟨#[]⟩,.slice va N vc]
 | 18,v,w=>v = .pointer (some ⟨BH,2,none⟩)
 | 19,v,w=>v = .pointer (some ⟨BH,4,none⟩)
 | 20,v,w=>v = .slice ar nr cr
 | 21,v,w=>∃ ra rc,v = .agg #[.int .i64 3,.int .i64 0,.string ⟨#[]⟩,.slice ra nr rc]∧V.At w (fun p=>w1.heap.size≤p∧p<w.heap.size) (listV (rs.map recV)) [.int .i64 3,.int .i64 0,.string ⟨#[]⟩,.slice ra nr rc]
 | 22,v,w=>∃ ra rc c,v = .slice (some ⟨c,0,none⟩) 7 7∧(V.At w (fun p=>w1.heap.size≤p∧p<w.heap.size) (listV (rs.map recV)) [.int .i64 3,.int .i64 0,.string ⟨#[]⟩,.slice ra nr rc])∧w1.heap.size≤c∧w.heap[c]? = some (.cells #[.int .i64 1,.int .i64 tm,.string ⟨#[]⟩,.slice none 0 0,.int .i64 1,.int .i64 vo,.string ⟨#[]⟩,.slice none 0 0,.int .i64 1,.int .i64 ba,.string ⟨#[]⟩,.slice none 0 0,.int .i64 1,.int .i64 bt,.string ⟨#[]⟩,.slice none 0 0,.int .i64 2,.int .i64 0,.string sn,.slice none 0 0,.int .i64 3,.int .i64 0,.string ⟨#[]⟩,.slice va N vc,.int .i64 3,.int .i64 0,.string ⟨#[]⟩,.slice ra nr rc] 70 (0,0))
 | 23,v,w=>∃ ra rc c,v = .agg #[.int .i64 3,.int .i64 0,.string ⟨#[]⟩,.slice (some ⟨c,0,none⟩) 7 7]∧(V.At w (fun p=>w1.heap.size≤p∧p<w.heap.size) (listV (rs.map recV)) [.int .i64 3,.int .i64 0,.string ⟨#[]⟩,.slice ra nr rc])∧w1.heap.size≤c∧w.heap[c]? = some (.cells #[.int .i64 1,.int .i64 tm,.string ⟨#[]⟩,.slice none 0 0,.int .i64 1,.int .i64 vo,.string ⟨#[]⟩,.slice none 0 0,.int .i64 1,.int .i64 ba,.string ⟨#[]⟩,.slice none 0 0,.int .i64 1,.int .i64 bt,.string ⟨#[]⟩,.slice none 0 0,.int .i64 2,.int .i64 0,.string sn,.slice none 0 0,.int .i64 3,.int .i64 0,.string ⟨#[]⟩,.slice va N vc,.int .i64 3,.int .i64 0,.string ⟨#[]⟩,.slice ra nr rc] 70 (0,0))
 | _,_,_=>True
def wvlD:Nat→List Nat
 | _=>[]
theorem wvl_keep (BH bx:Nat) (tm vo ba bt:Int) (ar:Option Addr) (nr cr:Nat) (rs:List Rc) (sn:ByteArray) (av:Option Addr) (nv cv:Nat) (va:Option Addr) (N vc:Nat) (w1:World):∀ (j:Nat) (u:Value) (w w':World),Below w.heap.size w w'→(wvlT BH bx tm vo ba bt ar nr cr rs sn av nv cv va N vc w1) j u w→(wvlT BH bx tm vo ba bt ar nr cr rs sn av nv cv va N vc w1) j u w'
 | 21,u,w,w',hb,h=>by obtain⟨ra,rc,rfl,h1⟩:=h; exact⟨ra,rc,rfl,V.At.move (fun p hp=>⟨hp.1,Nat.lt_of_lt_of_le hp.2 hb.size⟩) (fun p hp=>hb.block p hp.2) _ _ h1⟩
 | 22,u,w,w',hb,h=>by obtain⟨ra,rc,c,rfl,h1,h2,h3⟩:=h; exact⟨ra,rc,c,rfl,V.At.move (fun p hp=>⟨hp.1,Nat.lt_of_lt_of_le hp.2 hb.size⟩) (fun p hp=>hb.block p hp.2) _ _ h1,h2,(hb.block _ (lt_of_block h3)).trans h3⟩
 | 23,u,w,w',hb,h=>by obtain⟨ra,rc,c,rfl,h1,h2,h3⟩:=h; exact⟨ra,rc,c,rfl,V.At.move (fun p hp=>⟨hp.1,Nat.lt_of_lt_of_le hp.2 hb.size⟩) (fun p hp=>hb.block p hp.2) _ _ h1,h2,(hb.block _ (lt_of_block h3)).trans h3⟩
 | 0,u,w,w',hb,h=>h
 | 1,u,w,w',hb,h=>h
 | 2,u,w,w',hb,h=>h
 | 3,u,w,w',hb,h=>h
 | 4,u,w,w',hb,h=>h
 | 5,u,w,w',hb,h=>h
 | 6,u,w,w',hb,h=>h
 | 7,u,w,w',hb,h=>h
 | 8,u,w,w',hb,h=>h
 | 9,u,w,w',hb,h=>h
 | 10,u,w,w',hb,h=>h
 | 11,u,w,w',hb,h=>h
 | 12,u,w,w',hb,h=>h
 | 13,u,w,w',hb,h=>h
 | 14,u,w,w',hb,h=>h
 | 15,u,w,w',hb,h=>h
 | 16,u,w,w',hb,h=>h
 | 17,u,w,w',hb,h=>h
 | 18,u,w,w',hb,h=>h
 | 19,u,w,w',hb,h=>h
 | 20,u,w,w',hb,h=>h
 | _+24,u,w,w',hb,h=>trivial
set_option maxHeartbeats 4000000 in
theorem wvl_steps (BH bx:Nat) (tm vo ba bt:Int) (ar:Option Addr) (nr cr:Nat) (rs:List Rc) (sn:ByteArray) (av:Option Addr) (nv cv:Nat) (va:Option Addr) (N vc:Nat) (w1:World) (hBH:BH<w1.heap.size) (hBHo:w1.heap[BH]? = some (.cells #[.int .i64 tm,.int .i64 vo,.int .i64 ba,.int .i64 bt,.slice ar nr cr,.string sn,.slice av nv cv] 42 (0,0))) (hbx:bx<w1.heap.size) (hbxo:w1.heap[bx]? = some (.cells #[.int .i64 3,.int .i64 0,.string ⟨#[]⟩,.slice va N vc] 70 (0,0))) (hrs:rcE.Sl w1 ar nr rs) (hnr:nr≤200) {a:Act}(hs:a.tmps.size=46) (b1:a.eval (.tmp 1) = .pointer (some ⟨BH,0,none⟩)) (b3:a.eval (.tmp 3) = .pointer (some ⟨bx,0,none⟩)):∀ i o,i<24→(regOf Tryz.f67 7)[i]? = some o→StepOk Tryz.prog (regOf Tryz.f67 7) a (fun w=>Below w1.heap.size w1 w) (wvlT BH bx tm vo ba bt ar nr cr rs sn av nv cv va N vc w1) wvlD i o:=by
 have hz:∀ t,Nat.blt t 46=true→Nat.blt t a.tmps.size=true:=fun t h=>by rw [hs]; exact h
 have hsz:(regOf Tryz.f67 7).size=25:=by kernel_rfl
 intro i o hii ho
 match i,hii with
 | 0,_ =>
   have ho1:=opIs ho (p:=.fieldAddr 42 (.tmp 1) 0) (by kernel_rfl)
   have hg:=guardIs ho (p:=none) (by kernel_rfl)
   intro e A w hA hC hp K hk
   have x1:A.eval (.tmp 1) = .pointer (some ⟨BH,0,none⟩):=filled_base hA (by kernel_rfl) b1
   have hw:Region.wanted o (yielded (regOf Tryz.f67 7) A.tmps)=true:=wanted_free hg
   refine step_pure (v:=.pointer (some ⟨BH,0,none⟩)) hk hC hw ?_ rfl
   unfold execOp
   simp only [ho1]
   generalize A.eval=ρ at x1 ⊢
   simp [go_sem,x1]
 | 1,_ =>
   have ho1:=opIs ho (p:=.load 3 (.tmp 22)) (by kernel_rfl)
   have hg:=guardIs ho (p:=none) (by kernel_rfl)
   intro e A w hA hC hp K hk
   have x22:A.eval (.tmp 22) = .pointer (some ⟨BH,0,none⟩):=op_tmp hA hp 22 0 (by kernel_rfl) (by kernel_rfl) (by kernel_rfl) (hz _ rfl)
   have hw:Region.wanted o (yielded (regOf Tryz.f67 7) A.tmps)=true:=wanted_free hg
   have e1:=(Lib.cell_of_heap ((hC.block BH hBH).trans hBHo) 0).trans (show _=some (Value.int .i64 tm) from rfl)
   refine step_pure (v:=.int .i64 tm) hk hC hw ?_ rfl
   unfold execOp
   simp only [ho1]
   generalize A.eval=ρ at x22 ⊢
   simp [go_sem,x22,e1]
 | 2,_ =>
   have ho1:=opIs ho (p:=.call { callee:=(.value (.func 54)),args:=#[(.tmp 23)],argTypes:=#[3] }) (by kernel_rfl)
   have hg:=guardIs ho (p:=none) (by kernel_rfl)
   intro e A w hA hC hp K hk
   have x23:A.eval (.tmp 23) = .int .i64 tm:=op_tmp hA hp 23 1 (by kernel_rfl) (by kernel_rfl) (by kernel_rfl) (hz _ rfl)
   have hw:Region.wanted o (yielded (regOf Tryz.f67 7) A.tmps)=true:=wanted_free hg
   refine step_call (f:=54) (args:=#[.int .i64 tm]) hk hw ?_ ?_
   ·unfold execOp
    simp only [ho1]
    have xf:∀ f,A.eval (.func f) = .func (.func f) #[] #[]:=fun _=>rfl
    generalize A.eval=ρ at x23 xf ⊢
    simp [go_sem,xf,x23]
   ·refine (wnum_any tm w).mono ?_
    rintro en w' ⟨rfl,hb'⟩
    exact⟨_,rfl,rfl,below_then hC hb' hC.size,fun j u _ _ _ _ h=>wvl_keep BH bx tm vo ba bt ar nr cr rs sn av nv cv va N vc w1 j u w _ hb' h⟩
 | 3,_ =>
   have ho1:=opIs ho (p:=.fieldAddr 42 (.tmp 1) 1) (by kernel_rfl)
   have hg:=guardIs ho (p:=none) (by kernel_rfl)
   intro e A w hA hC hp K hk
   have x1:A.eval (.tmp 1) = .pointer (some ⟨BH,0,none⟩):=filled_base hA (by kernel_rfl) b1
   have hw:Region.wanted o (yielded (regOf Tryz.f67 7) A.tmps)=true:=wanted_free hg
   refine step_pure (v:=.pointer (some ⟨BH,1,none⟩)) hk hC hw ?_ rfl
   unfold execOp
   simp only [ho1]
   generalize A.eval=ρ at x1 ⊢
   simp [go_sem,x1]
 | 4,_ =>
   have ho1:=opIs ho (p:=.load 3 (.tmp 25)) (by kernel_rfl)
   have hg:=guardIs ho (p:=none) (by kernel_rfl)
   intro e A w hA hC hp K hk
   have x25:A.eval (.tmp 25) = .pointer (some ⟨BH,1,none⟩):=op_tmp hA hp 25 3 (by kernel_rfl) (by kernel_rfl) (by kernel_rfl) (hz _ rfl)
   have hw:Region.wanted o (yielded (regOf Tryz.f67 7) A.tmps)=true:=wanted_free hg
   have e1:=(Lib.cell_of_heap ((hC.block BH hBH).trans hBHo) 1).trans (show _=some (Value.int .i64 vo) from rfl)
   refine step_pure (v:=.int .i64 vo) hk hC hw ?_ rfl
   unfold execOp
   simp only [ho1]
   generalize A.eval=ρ at x25 ⊢
   simp [go_sem,x25,e1]
 | 5,_ =>
   have ho1:=opIs ho (p:=.call { callee:=(.value (.func 54)),args:=#[(.tmp 26)],argTypes:=#[3] }) (by kernel_rfl)
   have hg:=guardIs ho (p:=none) (by kernel_rfl)
   intro e A w hA hC hp K hk
   have x26:A.eval (.tmp 26) = .int .i64 vo:=op_tmp hA hp 26 4 (by kernel_rfl) (by kernel_rfl) (by kernel_rfl) (hz _ rfl)
   have hw:Region.wanted o (yielded (regOf Tryz.f67 7) A.tmps)=true:=wanted_free hg
   refine step_call (f:=54) (args:=#[.int .i64 vo]) hk hw ?_ ?_
   ·unfold execOp
    simp only [ho1]
    have xf:∀ f,A.eval (.func f) = .func (.func f) #[] #[]:=fun _=>rfl
    generalize A.eval=ρ at x26 xf ⊢
    simp [go_sem,xf,x26]
   ·refine (wnum_any vo w).mono ?_
    rintro en w' ⟨rfl,hb'⟩
    exact⟨_,rfl,rfl,below_then hC hb' hC.size,fun j u _ _ _ _ h=>wvl_keep BH bx tm vo ba bt ar nr cr rs sn av nv cv va N vc w1 j u w _ hb' h⟩
 | 6,_ =>
   have ho1:=opIs ho (p:=.fieldAddr 42 (.tmp 1) 2) (by kernel_rfl)
   have hg:=guardIs ho (p:=none) (by kernel_rfl)
   intro e A w hA hC hp K hk
   have x1:A.eval (.tmp 1) = .pointer (some ⟨BH,0,none⟩):=filled_base hA (by kernel_rfl) b1
   have hw:Region.wanted o (yielded (regOf Tryz.f67 7) A.tmps)=true:=wanted_free hg
   refine step_pure (v:=.pointer (some ⟨BH,2,none⟩)) hk hC hw ?_ rfl
   unfold execOp
   simp only [ho1]
   generalize A.eval=ρ at x1 ⊢
   simp [go_sem,x1]
 | 7,_ =>
   have ho1:=opIs ho (p:=.fieldAddr 40 (.tmp 28) 0) (by kernel_rfl)
   have hg:=guardIs ho (p:=none) (by kernel_rfl)
   intro e A w hA hC hp K hk
   have x28:A.eval (.tmp 28) = .pointer (some ⟨BH,2,none⟩):=op_tmp hA hp 28 6 (by kernel_rfl) (by kernel_rfl) (by kernel_rfl) (hz _ rfl)
   have hw:Region.wanted o (yielded (regOf Tryz.f67 7) A.tmps)=true:=wanted_free hg
   refine step_pure (v:=.pointer (some ⟨BH,2,none⟩)) hk hC hw ?_ rfl
   unfold execOp
   simp only [ho1]
   generalize A.eval=ρ at x28 ⊢
   simp [go_sem,x28]
 | 8,_ =>
   have ho1:=opIs ho (p:=.load 3 (.tmp 29)) (by kernel_rfl)
   have hg:=guardIs ho (p:=none) (by kernel_rfl)
   intro e A w hA hC hp K hk
   have x29:A.eval (.tmp 29) = .pointer (some ⟨BH,2,none⟩):=op_tmp hA hp 29 7 (by kernel_rfl) (by kernel_rfl) (by kernel_rfl) (hz _ rfl)
   have hw:Region.wanted o (yielded (regOf Tryz.f67 7) A.tmps)=true:=wanted_free hg
   have e1:=(Lib.cell_of_heap ((hC.block BH hBH).trans hBHo) 2).trans (show _=some (Value.int .i64 ba) from rfl)
   refine step_pure (v:=.int .i64 ba) hk hC hw ?_ rfl
   unfold execOp
   simp only [ho1]
   generalize A.eval=ρ at x29 ⊢
   simp [go_sem,x29,e1]
 | 9,_ =>
   have ho1:=opIs ho (p:=.call { callee:=(.value (.func 54)),args:=#[(.tmp 30)],argTypes:=#[3] }) (by kernel_rfl)
   have hg:=guardIs ho (p:=none) (by kernel_rfl)
   intro e A w hA hC hp K hk
   have x30:A.eval (.tmp 30) = .int .i64 ba:=op_tmp hA hp 30 8 (by kernel_rfl) (by kernel_rfl) (by kernel_rfl) (hz _ rfl)
   have hw:Region.wanted o (yielded (regOf Tryz.f67 7) A.tmps)=true:=wanted_free hg
   refine step_call (f:=54) (args:=#[.int .i64 ba]) hk hw ?_ ?_
   ·unfold execOp
    simp only [ho1]
    have xf:∀ f,A.eval (.func f) = .func (.func f) #[] #[]:=fun _=>rfl
    generalize A.eval=ρ at x30 xf ⊢
    simp [go_sem,xf,x30]
   ·refine (wnum_any ba w).mono ?_
    rintro en w' ⟨rfl,hb'⟩
    exact⟨_,rfl,rfl,below_then hC hb' hC.size,fun j u _ _ _ _ h=>wvl_keep BH bx tm vo ba bt ar nr cr rs sn av nv cv va N vc w1 j u w _ hb' h⟩
 | 10,_ =>
   have ho1:=opIs ho (p:=.fieldAddr 42 (.tmp 1) 2) (by kernel_rfl)
   have hg:=guardIs ho (p:=none) (by kernel_rfl)
   intro e A w hA hC hp K hk
   have x1:A.eval (.tmp 1) = .pointer (some ⟨BH,0,none⟩):=filled_base hA (by kernel_rfl) b1
   have hw:Region.wanted o (yielded (regOf Tryz.f67 7) A.tmps)=true:=wanted_free hg
   refine step_pure (v:=.pointer (some ⟨BH,2,none⟩)) hk hC hw ?_ rfl
   unfold execOp
   simp only [ho1]
   generalize A.eval=ρ at x1 ⊢
   simp [go_sem,x1]
 | 11,_ =>
   have ho1:=opIs ho (p:=.fieldAddr 40 (.tmp 32) 1) (by kernel_rfl)
   have hg:=guardIs ho (p:=none) (by kernel_rfl)
   intro e A w hA hC hp K hk
   have x32:A.eval (.tmp 32) = .pointer (some ⟨BH,2,none⟩):=op_tmp hA hp 32 10 (by kernel_rfl) (by kernel_rfl) (by kernel_rfl) (hz _ rfl)
   have hw:Region.wanted o (yielded (regOf Tryz.f67 7) A.tmps)=true:=wanted_free hg
   refine step_pure (v:=.pointer (some ⟨BH,3,none⟩)) hk hC hw ?_ rfl
   unfold execOp
   simp only [ho1]
   generalize A.eval=ρ at x32 ⊢
   simp [go_sem,x32]
 | 12,_ =>
   have ho1:=opIs ho (p:=.load 3 (.tmp 33)) (by kernel_rfl)
   have hg:=guardIs ho (p:=none) (by kernel_rfl)
   intro e A w hA hC hp K hk
   have x33:A.eval (.tmp 33) = .pointer (some ⟨BH,3,none⟩):=op_tmp hA hp 33 11 (by kernel_rfl) (by kernel_rfl) (by kernel_rfl) (hz _ rfl)
   have hw:Region.wanted o (yielded (regOf Tryz.f67 7) A.tmps)=true:=wanted_free hg
   have e1:=(Lib.cell_of_heap ((hC.block BH hBH).trans hBHo) 3).trans (show _=some (Value.int .i64 bt) from rfl)
   refine step_pure (v:=.int .i64 bt) hk hC hw ?_ rfl
   unfold execOp
   simp only [ho1]
   generalize A.eval=ρ at x33 ⊢
   simp [go_sem,x33,e1]
 | 13,_ =>
   have ho1:=opIs ho (p:=.call { callee:=(.value (.func 54)),args:=#[(.tmp 34)],argTypes:=#[3] }) (by kernel_rfl)
   have hg:=guardIs ho (p:=none) (by kernel_rfl)
   intro e A w hA hC hp K hk
   have x34:A.eval (.tmp 34) = .int .i64 bt:=op_tmp hA hp 34 12 (by kernel_rfl) (by kernel_rfl) (by kernel_rfl) (hz _ rfl)
   have hw:Region.wanted o (yielded (regOf Tryz.f67 7) A.tmps)=true:=wanted_free hg
   refine step_call (f:=54) (args:=#[.int .i64 bt]) hk hw ?_ ?_
   ·unfold execOp
    simp only [ho1]
    have xf:∀ f,A.eval (.func f) = .func (.func f) #[] #[]:=fun _=>rfl
    generalize A.eval=ρ at x34 xf ⊢
    simp [go_sem,xf,x34]
   ·refine (wnum_any bt w).mono ?_
    rintro en w' ⟨rfl,hb'⟩
    exact⟨_,rfl,rfl,below_then hC hb' hC.size,fun j u _ _ _ _ h=>wvl_keep BH bx tm vo ba bt ar nr cr rs sn av nv cv va N vc w1 j u w _ hb' h⟩
 | 14,_ =>
   have ho1:=opIs ho (p:=.fieldAddr 42 (.tmp 1) 3) (by kernel_rfl)
   have hg:=guardIs ho (p:=none) (by kernel_rfl)
   intro e A w hA hC hp K hk
   have x1:A.eval (.tmp 1) = .pointer (some ⟨BH,0,none⟩):=filled_base hA (by kernel_rfl) b1
   have hw:Region.wanted o (yielded (regOf Tryz.f67 7) A.tmps)=true:=wanted_free hg
   refine step_pure (v:=.pointer (some ⟨BH,5,none⟩)) hk hC hw ?_ rfl
   unfold execOp
   simp only [ho1]
   generalize A.eval=ρ at x1 ⊢
   simp [go_sem,x1]
 | 15,_ =>
   have ho1:=opIs ho (p:=.load 9 (.tmp 36)) (by kernel_rfl)
   have hg:=guardIs ho (p:=none) (by kernel_rfl)
   intro e A w hA hC hp K hk
   have x36:A.eval (.tmp 36) = .pointer (some ⟨BH,5,none⟩):=op_tmp hA hp 36 14 (by kernel_rfl) (by kernel_rfl) (by kernel_rfl) (hz _ rfl)
   have hw:Region.wanted o (yielded (regOf Tryz.f67 7) A.tmps)=true:=wanted_free hg
   have e1:=(Lib.cell_of_heap ((hC.block BH hBH).trans hBHo) 5).trans (show _=some (Value.string sn) from rfl)
   refine step_pure (v:=.string sn) hk hC hw ?_ rfl
   unfold execOp
   simp only [ho1]
   generalize A.eval=ρ at x36 ⊢
   simp [go_sem,x36,e1]
 | 16,_ =>
   have ho1:=opIs ho (p:=.build 70 #[(0,(.const (.int .i64 2))),(2,(.tmp 37))]) (by kernel_rfl)
   have hg:=guardIs ho (p:=none) (by kernel_rfl)
   intro e A w hA hC hp K hk
   have x37:A.eval (.tmp 37) = .string sn:=op_tmp hA hp 37 15 (by kernel_rfl) (by kernel_rfl) (by kernel_rfl) (hz _ rfl)
   have hw:Region.wanted o (yielded (regOf Tryz.f67 7) A.tmps)=true:=wanted_free hg
   refine step_pure (v:=.agg #[.int .i64 2,.int .i64 0,.string sn,.slice none 0 0]) hk hC hw ?_ rfl
   unfold execOp
   simp only [ho1]
   have xc:∀ v,A.eval (.const v)=v:=fun _=>rfl
   generalize A.eval=ρ at x37 xc ⊢
   simp [go_sem,x37,xc]
 | 17,_ =>
   have ho1:=opIs ho (p:=.load 70 (.tmp 3)) (by kernel_rfl)
   have hg:=guardIs ho (p:=none) (by kernel_rfl)
   intro e A w hA hC hp K hk
   have x3:A.eval (.tmp 3) = .pointer (some ⟨bx,0,none⟩):=filled_base hA (by kernel_rfl) b3
   have hw:Region.wanted o (yielded (regOf Tryz.f67 7) A.tmps)=true:=wanted_free hg
   have e0:=(Lib.cell_of_heap ((hC.block bx hbx).trans hbxo) 0).trans (show _=some (Value.int .i64 3) from rfl)
   have e1:=(Lib.cell_of_heap ((hC.block bx hbx).trans hbxo) 1).trans (show _=some (Value.int .i64 0) from rfl)
   have e2:=(Lib.cell_of_heap ((hC.block bx hbx).trans hbxo) 2).trans (show _=some (Value.string ⟨#[]⟩) from rfl)
   have e3:=(Lib.cell_of_heap ((hC.block bx hbx).trans hbxo) 3).trans (show _=some (Value.slice va N vc) from rfl)
   refine step_pure (v:=.agg #[.int .i64 3,.int .i64 0,.string ⟨#[]⟩,.slice va N vc]) hk hC hw ?_ rfl
   unfold execOp
   simp only [ho1]
   generalize A.eval=ρ at x3 ⊢
   simp [go_sem,x3,e0,e1,e2,e3]
 | 18,_ =>
   have ho1:=opIs ho (p:=.fieldAddr 42 (.tmp 1) 2) (by kernel_rfl)
   have hg:=guardIs ho (p:=none) (by kernel_rfl)
   intro e A w hA hC hp K hk
   have x1:A.eval (.tmp 1) = .pointer (some ⟨BH,0,none⟩):=filled_base hA (by kernel_rfl) b1
   have hw:Region.wanted o (yielded (regOf Tryz.f67 7) A.tmps)=true:=wanted_free hg
   refine step_pure (v:=.pointer (some ⟨BH,2,none⟩)) hk hC hw ?_ rfl
   unfold execOp
   simp only [ho1]
   generalize A.eval=ρ at x1 ⊢
   simp [go_sem,x1]
 | 19,_ =>
   have ho1:=opIs ho (p:=.fieldAddr 40 (.tmp 40) 2) (by kernel_rfl)
   have hg:=guardIs ho (p:=none) (by kernel_rfl)
   intro e A w hA hC hp K hk
   have x40:A.eval (.tmp 40) = .pointer (some ⟨BH,2,none⟩):=op_tmp hA hp 40 18 (by kernel_rfl) (by kernel_rfl) (by kernel_rfl) (hz _ rfl)
   have hw:Region.wanted o (yielded (regOf Tryz.f67 7) A.tmps)=true:=wanted_free hg
   refine step_pure (v:=.pointer (some ⟨BH,4,none⟩)) hk hC hw ?_ rfl
   unfold execOp
   simp only [ho1]
   generalize A.eval=ρ at x40 ⊢
   simp [go_sem,x40]
 | 20,_ =>
   have ho1:=opIs ho (p:=.load 22 (.tmp 41)) (by kernel_rfl)
   have hg:=guardIs ho (p:=none) (by kernel_rfl)
   intro e A w hA hC hp K hk
   have x41:A.eval (.tmp 41) = .pointer (some ⟨BH,4,none⟩):=op_tmp hA hp 41 19 (by kernel_rfl) (by kernel_rfl) (by kernel_rfl) (hz _ rfl)
   have hw:Region.wanted o (yielded (regOf Tryz.f67 7) A.tmps)=true:=wanted_free hg
   have e1:=(Lib.cell_of_heap ((hC.block BH hBH).trans hBHo) 4).trans (show _=some (Value.slice ar nr cr) from rfl)
   refine step_pure (v:=.slice ar nr cr) hk hC hw ?_ rfl
   unfold execOp
   simp only [ho1]
   generalize A.eval=ρ at x41 ⊢
   simp [go_sem,x41,e1]
 | 21,_ =>
   have ho1:=opIs ho (p:=.call { callee:=(.value (.func 55)),args:=#[(.tmp 42)],argTypes:=#[22] }) (by kernel_rfl)
   have hg:=guardIs ho (p:=none) (by kernel_rfl)
   intro e A w hA hC hp K hk
   have x42:A.eval (.tmp 42) = .slice ar nr cr:=op_tmp hA hp 42 20 (by kernel_rfl) (by kernel_rfl) (by kernel_rfl) (hz _ rfl)
   have hw:Region.wanted o (yielded (regOf Tryz.f67 7) A.tmps)=true:=wanted_free hg
   refine step_call (f:=55) (args:=#[.slice ar nr cr]) hk hw ?_ ?_
   ·unfold execOp
    simp only [ho1]
    have xf:∀ f,A.eval (.func f) = .func (.func f) #[] #[]:=fun _=>rfl
    generalize A.eval=ρ at x42 xf ⊢
    simp [go_sem,xf,x42]
   ·refine (wrecs_any ar nr cr rs w (hrs.keep hC) hnr).mono ?_
    rintro en w' ⟨ra,rc,rfl,hat,hb'⟩
    exact⟨_,rfl,⟨ra,rc,rfl,V.At.move (fun p hp=>⟨Nat.le_trans hC.size hp.1,hp.2⟩) (fun _ _=>rfl) _ _ hat⟩,below_then hC hb' hC.size,fun j u _ _ _ _ h=>wvl_keep BH bx tm vo ba bt ar nr cr rs sn av nv cv va N vc w1 j u w _ hb' h⟩
 | 22,_ =>
   have ho1:=opIs ho (p:=.buildSlice 68 7 #[(0,(.tmp 24)),(1,(.tmp 27)),(2,(.tmp 31)),(3,(.tmp 35)),(4,(.tmp 38)),(5,(.tmp 39)),(6,(.tmp 43))]) (by kernel_rfl)
   have hg:=guardIs ho (p:=none) (by kernel_rfl)
   intro e A w hA hC hp K hk
   have x24:A.eval (.tmp 24) = .agg #[.int .i64 1,.int .i64 tm,.string ⟨#[]⟩,.slice none 0 0]:=op_tmp hA hp 24 2 (by kernel_rfl) (by kernel_rfl) (by kernel_rfl) (hz _ rfl)
   have x27:A.eval (.tmp 27) = .agg #[.int .i64 1,.int .i64 vo,.string ⟨#[]⟩,.slice none 0 0]:=op_tmp hA hp 27 5 (by kernel_rfl) (by kernel_rfl) (by kernel_rfl) (hz _ rfl)
   have x31:A.eval (.tmp 31) = .agg #[.int .i64 1,.int .i64 ba,.string ⟨#[]⟩,.slice none 0 0]:=op_tmp hA hp 31 9 (by kernel_rfl) (by kernel_rfl) (by kernel_rfl) (hz _ rfl)
   have x35:A.eval (.tmp 35) = .agg #[.int .i64 1,.int .i64 bt,.string ⟨#[]⟩,.slice none 0 0]:=op_tmp hA hp 35 13 (by kernel_rfl) (by kernel_rfl) (by kernel_rfl) (hz _ rfl)
   have x38:A.eval (.tmp 38) = .agg #[.int .i64 2,.int .i64 0,.string sn,.slice none 0 0]:=op_tmp hA hp 38 16 (by kernel_rfl) (by kernel_rfl) (by kernel_rfl) (hz _ rfl)
   have x39:A.eval (.tmp 39) = .agg #[.int .i64 3,.int .i64 0,.string ⟨#[]⟩,.slice va N vc]:=op_tmp hA hp 39 17 (by kernel_rfl) (by kernel_rfl) (by kernel_rfl) (hz _ rfl)
   have x43:=op_tmp hA hp 43 21 (by kernel_rfl) (by kernel_rfl) (by kernel_rfl) (hz _ rfl)
   have hw:Region.wanted o (yielded (regOf Tryz.f67 7) A.tmps)=true:=wanted_free hg
   obtain⟨ra,rc,x43,h1⟩:=x43
   refine step_value (v:=.slice (some ⟨w.heap.size,0,none⟩) 7 7) (w':=w.alloc (.cells #[.int .i64 1,.int .i64 tm,.string ⟨#[]⟩,.slice none 0 0,.int .i64 1,.int .i64 vo,.string ⟨#[]⟩,.slice none 0 0,.int .i64 1,.int .i64 ba,.string ⟨#[]⟩,.slice none 0 0,.int .i64 1,.int .i64 bt,.string ⟨#[]⟩,.slice none 0 0,.int .i64 2,.int .i64 0,.string sn,.slice none 0 0,.int .i64 3,.int .i64 0,.string ⟨#[]⟩,.slice va N vc,.int .i64 3,.int .i64 0,.string ⟨#[]⟩,.slice ra nr rc] 70)) hk hw ?_ ?_ ?_ ?_
   ·unfold execOp
    simp only [ho1]
    generalize A.eval=ρ at x24 x27 x31 x35 x38 x39 x43 ⊢
    simp [go_sem,x24,x27,x31,x35,x38,x39,x43]
   ·exact⟨ra,rc,w.heap.size,rfl,V.At.move (fun p hp=>⟨hp.1,Nat.lt_of_lt_of_le hp.2 (World.grownBy_alloc w _ none).size⟩) (fun p hp=>heap_alloc_old w _ hp.2) _ _ h1,hC.size,heap_alloc_new w _⟩
   ·exact hC.alloc hC.size _
   ·intro j u _ _ _ _ h
    exact wvl_keep BH bx tm vo ba bt ar nr cr rs sn av nv cv va N vc w1 j u w _ ((Below.refl _ w).alloc (Nat.le_refl _) _) h
 | 23,_ =>
   have ho1:=opIs ho (p:=.build 70 #[(0,(.const (.int .i64 3))),(3,(.tmp 44))]) (by kernel_rfl)
   have hg:=guardIs ho (p:=none) (by kernel_rfl)
   intro e A w hA hC hp K hk
   have x44:=op_tmp hA hp 44 22 (by kernel_rfl) (by kernel_rfl) (by kernel_rfl) (hz _ rfl)
   have hw:Region.wanted o (yielded (regOf Tryz.f67 7) A.tmps)=true:=wanted_free hg
   obtain⟨ra,rc,c,x44,h1,h2,h3⟩:=x44
   refine step_pure (v:=.agg #[.int .i64 3,.int .i64 0,.string ⟨#[]⟩,.slice (some ⟨c,0,none⟩) 7 7]) hk hC hw ?_ ⟨ra,rc,c,rfl,h1,h2,h3⟩
   unfold execOp
   simp only [ho1]
   have xc:∀ v,A.eval (.const v)=v:=fun _=>rfl
   generalize A.eval=ρ at x44 xc ⊢
   simp [go_sem,x44,xc]
 | _+24,h=>exact absurd h (by omega)
end Go.Proofs.YtlpgbmaoenncjaaGreatDoor

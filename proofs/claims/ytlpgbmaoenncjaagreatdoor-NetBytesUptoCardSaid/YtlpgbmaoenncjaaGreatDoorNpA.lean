/-
  net's num and list; the regions of net.Put that append one value to a list in the making (their order is drawn); without a condition. (Written by wip/mknp.py.)
-/
import Derived.Test.YtlpgbmaoenncjaaGreatDoorGen
import Derived.Test.YtlpgbmaoenncjaaGreatDoorPvs
namespace Go.Proofs.YtlpgbmaoenncjaaGreatDoor
open Go.RowKit
set_option linter.unusedVariables false
theorem nnum_any (n:Int) (w:World):Calls Tryz.prog 35 #[.int .i64 n] w (fun e w'=>e = .returned (.agg #[.int .i64 1,.int .i64 n,.string ⟨#[]⟩,.slice none 0 0])∧Below w.heap.size w w'):=by
 go_enter Tryz.func35,Tryz.ntmps35
 go_wp2_with fail
 refine bodyPost_ret (v:=.agg #[.int .i64 1,.int .i64 n,.string ⟨#[]⟩,.slice none 0 0]) ?_ rfl ?_
 ·exact results_cell_row (p:=2) rfl _ _ w.heap.size 70 _ (0,0) _ rfl (heap_alloc_new w _) Tryz.underlying70 rfl (by kernel_rfl)
 ·exact⟨rfl,(Below.refl _ w).alloc (Nat.le_refl _) _⟩
theorem nlist_any (a:Option Addr) (n c:Nat) (w:World):Calls Tryz.prog 33 #[.slice a n c] w (fun e w'=>e = .returned (.agg #[.int .i64 3,.int .i64 0,.string ⟨#[]⟩,.slice a n c])∧Below w.heap.size w w'):=by
 go_enter Tryz.func33,Tryz.ntmps33
 go_wp2_with fail
 refine bodyPost_ret (v:=.agg #[.int .i64 3,.int .i64 0,.string ⟨#[]⟩,.slice a n c]) ?_ rfl ?_
 ·exact results_cell_row (p:=2) rfl _ _ w.heap.size 70 _ (0,0) _ rfl (heap_alloc_new w _) Tryz.underlying70 rfl (by kernel_rfl)
 ·exact⟨rfl,(Below.refl _ w).alloc (Nat.le_refl _) _⟩
def npaT (base bx:Nat) (x:Int) (va:Option Addr) (vc:Nat) (acc:List V) (cells:List Value) (w1:World):Nat→Value→World→Prop
 | 0,v,w=>v = .pointer (some ⟨bx,3,none⟩)
 | 1,v,w=>v = .slice va acc.length vc
 | 2,v,w=>v = .int .i64 x
 | 3,v,w=>v = .agg #[.int .i64 1,.int .i64 x,.string ⟨#[]⟩,.slice none 0 0]
 | 4,v,w=>∃ c,v = .slice (some ⟨c,0,none⟩) 1 1∧w.heap[c]? = some (.cells #[.int .i64 1,.int .i64 x,.string ⟨#[]⟩,.slice none 0 0] 70 (0,0))
 | 5,v,w=>∃ a3 c3 cells3,v = .slice a3 (acc.length+[numV x].length) c3∧MadeB base bx acc [numV x] va vc a3 c3 cells3 w
 | 6,v,w=>v = .pointer (some ⟨bx,3,none⟩)
 | _,_,_=>True
def npaD:Nat→List Nat
 | 5=>[4]
 | _=>[]
theorem npa_keep (base bx:Nat) (x:Int) (va:Option Addr) (vc:Nat) (acc:List V) (cells:List Value) (w1:World):∀ (j:Nat) (u:Value) (w w':World),Below w.heap.size w w'→(npaT base bx x va vc acc cells w1) j u w→(npaT base bx x va vc acc cells w1) j u w'
 | 4,u,w,w',hb,h=>by obtain⟨c,rfl,h3⟩:=h; exact⟨c,rfl,(hb.block _ (lt_of_block h3)).trans h3⟩
 | 5,u,w,w',hb,h=>by obtain⟨a3,c3,cells3,rfl,h1⟩:=h; exact⟨a3,c3,cells3,rfl,h1.under hb⟩
 | 0,u,w,w',hb,h=>h
 | 1,u,w,w',hb,h=>h
 | 2,u,w,w',hb,h=>h
 | 3,u,w,w',hb,h=>h
 | 6,u,w,w',hb,h=>h
 | _+7,u,w,w',hb,h=>trivial
set_option maxHeartbeats 4000000 in
theorem npa_steps (base bx:Nat) (x:Int) (va:Option Addr) (vc:Nat) (acc:List V) (cells:List Value) (w1:World) (hbw:base≤w1.heap.size) (hvl:∀ k,(Value.slice va acc.length vc).ownBlock=some k→k<w1.heap.size) (hn:acc.length≤1000000) (hV:Tryz.prog.underlying 68 = some (.slice 70)) {a:Act}(hs:a.tmps.size=99) (b4:a.eval (.tmp 4) = .pointer (some ⟨bx,0,none⟩)) (b7:a.eval (.tmp 7) = .int .i64 x):∀ i o,i<7→(regOf Tryz.f10 11)[i]? = some o→StepOkE Tryz.prog (regOf Tryz.f10 11) a (fun e w=>(fun w=>w1.grownBy w (Value.slice va acc.length vc).ownBlock) w∧(e 5=none→(fun w=>MakingB base bx acc va vc cells w) w)) (npaT base bx x va vc acc cells w1) npaD i o:=by
 have hz:∀ t,Nat.blt t 99=true→Nat.blt t a.tmps.size=true:=fun t h=>by rw [hs]; exact h
 have hsz:(regOf Tryz.f10 11).size=8:=by kernel_rfl
 intro i o hii ho
 match i,hii with
 | 0,_ =>
   have ho1:=opIs ho (p:=.fieldAddr 70 (.tmp 4) 3) (by kernel_rfl)
   have hg:=guardIs ho (p:=none) (by kernel_rfl)
   intro e A w hA hC hp hup K hk
   have hM:=hC.2 (hup 5 (by kernel_rfl))
   replace hC:=hC.1
   replace hk:Next (regOf Tryz.f10 11) (fun w=>(fun w=>w1.grownBy w (Value.slice va acc.length vc).ownBlock) w∧(fun w=>MakingB base bx acc va vc cells w) w) (npaT base bx x va vc acc cells w1) npaD 0 e A w o.dst K:=hk.next fun v w h=>⟨h.1,fun _=>h.2⟩
   have hCM:=And.intro hC hM
   have x4:A.eval (.tmp 4) = .pointer (some ⟨bx,0,none⟩):=filled_base hA (by kernel_rfl) b4
   have hw:Region.wanted o (yielded (regOf Tryz.f10 11) A.tmps)=true:=wanted_free hg
   refine step_pure (v:=.pointer (some ⟨bx,3,none⟩)) hk hCM hw ?_ rfl
   unfold execOp
   simp only [ho1]
   generalize A.eval=ρ at x4 ⊢
   simp [go_sem,x4]
 | 1,_ =>
   have ho1:=opIs ho (p:=.load 68 (.tmp 27)) (by kernel_rfl)
   have hg:=guardIs ho (p:=none) (by kernel_rfl)
   intro e A w hA hC hp hup K hk
   have hM:=hC.2 (hup 5 (by kernel_rfl))
   replace hC:=hC.1
   replace hk:Next (regOf Tryz.f10 11) (fun w=>(fun w=>w1.grownBy w (Value.slice va acc.length vc).ownBlock) w∧(fun w=>MakingB base bx acc va vc cells w) w) (npaT base bx x va vc acc cells w1) npaD 1 e A w o.dst K:=hk.next fun v w h=>⟨h.1,fun _=>h.2⟩
   have hCM:=And.intro hC hM
   have x27:A.eval (.tmp 27) = .pointer (some ⟨bx,3,none⟩):=op_tmp hA hp 27 0 (by kernel_rfl) (by kernel_rfl) (by kernel_rfl) (hz _ rfl)
   have hw:Region.wanted o (yielded (regOf Tryz.f10 11) A.tmps)=true:=wanted_free hg
   have e1:=hM.box.c3
   refine step_pure (v:=.slice va acc.length vc) hk hCM hw ?_ rfl
   unfold execOp
   simp only [ho1]
   generalize A.eval=ρ at x27 ⊢
   simp [go_sem,x27,e1]
 | 2,_ =>
   have ho1:=opIs ho (p:=.move (.tmp 7)) (by kernel_rfl)
   have hg:=guardIs ho (p:=none) (by kernel_rfl)
   intro e A w hA hC hp hup K hk
   have hM:=hC.2 (hup 5 (by kernel_rfl))
   replace hC:=hC.1
   replace hk:Next (regOf Tryz.f10 11) (fun w=>(fun w=>w1.grownBy w (Value.slice va acc.length vc).ownBlock) w∧(fun w=>MakingB base bx acc va vc cells w) w) (npaT base bx x va vc acc cells w1) npaD 2 e A w o.dst K:=hk.next fun v w h=>⟨h.1,fun _=>h.2⟩
   have hCM:=And.intro hC hM
   have x7:A.eval (.tmp 7) = .int .i64 x:=filled_base hA (by kernel_rfl) b7
   have hw:Region.wanted o (yielded (regOf Tryz.f10 11) A.tmps)=true:=wanted_free hg
   exact step_pure hk hCM hw (run_move ho1 x7 w) rfl
 | 3,_ =>
   have ho1:=opIs ho (p:=.call { callee:=(.value (.func 35)),args:=#[(.tmp 29)],argTypes:=#[3] }) (by kernel_rfl)
   have hg:=guardIs ho (p:=none) (by kernel_rfl)
   intro e A w hA hC hp hup K hk
   have hM:=hC.2 (hup 5 (by kernel_rfl))
   replace hC:=hC.1
   replace hk:Next (regOf Tryz.f10 11) (fun w=>(fun w=>w1.grownBy w (Value.slice va acc.length vc).ownBlock) w∧(fun w=>MakingB base bx acc va vc cells w) w) (npaT base bx x va vc acc cells w1) npaD 3 e A w o.dst K:=hk.next fun v w h=>⟨h.1,fun _=>h.2⟩
   have hCM:=And.intro hC hM
   have x29:A.eval (.tmp 29) = .int .i64 x:=op_tmp hA hp 29 2 (by kernel_rfl) (by kernel_rfl) (by kernel_rfl) (hz _ rfl)
   have hw:Region.wanted o (yielded (regOf Tryz.f10 11) A.tmps)=true:=wanted_free hg
   refine step_call (f:=35) (args:=#[.int .i64 x]) hk hw ?_ ?_
   ·unfold execOp
    simp only [ho1]
    have xf:∀ f,A.eval (.func f) = .func (.func f) #[] #[]:=fun _=>rfl
    generalize A.eval=ρ at x29 xf ⊢
    simp [go_sem,xf,x29]
   ·refine (nnum_any x w).mono ?_
    rintro en w' ⟨rfl,hb'⟩
    exact⟨_,rfl,rfl,⟨grown_trans hC (grown_of_below hb' _),hM.under hb'⟩,fun j u _ _ _ _ h=>npa_keep base bx x va vc acc cells w1 j u w _ hb' h⟩
 | 4,_ =>
   have ho1:=opIs ho (p:=.buildSlice 68 1 #[(0,(.tmp 30))]) (by kernel_rfl)
   have hg:=guardIs ho (p:=none) (by kernel_rfl)
   intro e A w hA hC hp hup K hk
   have hM:=hC.2 (hup 5 (by kernel_rfl))
   replace hC:=hC.1
   replace hk:Next (regOf Tryz.f10 11) (fun w=>(fun w=>w1.grownBy w (Value.slice va acc.length vc).ownBlock) w∧(fun w=>MakingB base bx acc va vc cells w) w) (npaT base bx x va vc acc cells w1) npaD 4 e A w o.dst K:=hk.next fun v w h=>⟨h.1,fun _=>h.2⟩
   have hCM:=And.intro hC hM
   have x30:A.eval (.tmp 30) = .agg #[.int .i64 1,.int .i64 x,.string ⟨#[]⟩,.slice none 0 0]:=op_tmp hA hp 30 3 (by kernel_rfl) (by kernel_rfl) (by kernel_rfl) (hz _ rfl)
   have hw:Region.wanted o (yielded (regOf Tryz.f10 11) A.tmps)=true:=wanted_free hg
   refine step_value (v:=.slice (some ⟨w.heap.size,0,none⟩) 1 1) (w':=w.alloc (.cells #[.int .i64 1,.int .i64 x,.string ⟨#[]⟩,.slice none 0 0] 70)) hk hw ?_ ?_ ?_ ?_
   ·unfold execOp
    simp only [ho1]
    generalize A.eval=ρ at x30 ⊢
    simp [go_sem,x30]
   ·exact⟨w.heap.size,rfl,heap_alloc_new w _⟩
   ·exact⟨grown_trans hC (World.grownBy_alloc w _ _),hM.under ((Below.refl _ w).alloc (Nat.le_refl _) _)⟩
   ·intro j u _ _ _ _ h
    exact npa_keep base bx x va vc acc cells w1 j u w _ ((Below.refl _ w).alloc (Nat.le_refl _) _) h
 | 5,_ =>
   have ho1:=opIs ho (p:=.call { callee:=(.builtin .append),args:=#[(.tmp 28),(.tmp 31)],argTypes:=#[68,68] }) (by kernel_rfl)
   have hg:=guardIs ho (p:=none) (by kernel_rfl)
   intro e A w hA hC hp hup K hk
   have hM:=hC.2 (hup 5 (by kernel_rfl))
   have x28:A.eval (.tmp 28) = .slice va acc.length vc:=op_tmp hA hp 28 1 (by kernel_rfl) (by kernel_rfl) (by kernel_rfl) (hz _ rfl)
   have x31:=op_tmp hA hp 31 4 (by kernel_rfl) (by kernel_rfl) (by kernel_rfl) (hz _ rfl)
   have hw:Region.wanted o (yielded (regOf Tryz.f10 11) A.tmps)=true:=wanted_free hg
   obtain⟨c,x31,h3⟩:=x31
   have hat:V.At w (fun p=>w1.heap.size≤p∧p<w.heap.size) (numV x) [.int .i64 1,.int .i64 x,.string ⟨#[]⟩,.slice none 0 0]:=by
    simp only [numV,V.At,VAll]
    exact⟨none,0,rfl,Nat.le_refl _,fun _=>rfl,trivial⟩
   have hrw:RowOf w (fun p=>w1.heap.size≤p∧p<w.heap.size) [numV x] [.int .i64 1,.int .i64 x,.string ⟨#[]⟩,.slice none 0 0]:=by have:=RowOf.snoc RowOf.nil hat; exact this
   obtain⟨a3,c3,cells3,w',hr,hg,hmade⟩:=makingB_append hM [numV x] _ 1 c w1.heap.size _ 68 o.type hV h3 rfl hrw hbw hvl (by decide) (by decide) hn
   rw [if_pos hw]
   unfold Oper.wp
   rw [show (execOp A.eval o).run Tryz.prog w = .ok (.value (.slice a3 (acc.length+[numV x].length) c3)) w' by
    unfold execOp
    simp only [ho1,resolve,invoke,builtin,Sem.run_bind,Sem.run_pure,Result.andThen_ok,List.map_toArray,List.map_cons,List.map_nil,x28,x31,hr]]
   refine hk _ _ ⟨a3,c3,cells3,rfl,hmade⟩ ⟨grown_trans hC.1 hg,fun h=>by rw [Vals.set_same] at h; cases h⟩ ?_
   intro j u hj hji _ hd h
   match j,h with
   | 0,h=>exact h
   | 1,h=>exact h
   | 2,h=>exact h
   | 3,h=>exact h
   | 4,h=>exact absurd rfl (hd 5 (by rw [hsz]; decide) rfl).1
   | 5,h=>exact absurd rfl hji
   | 6,h=>exact h
   | _+7,h=>trivial
 | 6,_ =>
   have ho1:=opIs ho (p:=.fieldAddr 70 (.tmp 4) 3) (by kernel_rfl)
   have hg:=guardIs ho (p:=none) (by kernel_rfl)
   intro e A w hA hC hp hup K hk
   replace hk:Next (regOf Tryz.f10 11) (fun w=>(fun w=>w1.grownBy w (Value.slice va acc.length vc).ownBlock) w∧(e 5=none→(fun w=>MakingB base bx acc va vc cells w) w)) (npaT base bx x va vc acc cells w1) npaD 6 e A w o.dst K:=hk.next fun v w h=>⟨h.1,fun he=>h.2 (by rwa [Vals.set_other e v (by decide)] at he)⟩
   have hCM:=hC
   have x4:A.eval (.tmp 4) = .pointer (some ⟨bx,0,none⟩):=filled_base hA (by kernel_rfl) b4
   have hw:Region.wanted o (yielded (regOf Tryz.f10 11) A.tmps)=true:=wanted_free hg
   refine step_pure (v:=.pointer (some ⟨bx,3,none⟩)) hk hCM hw ?_ rfl
   unfold execOp
   simp only [ho1]
   generalize A.eval=ρ at x4 ⊢
   simp [go_sem,x4]
 | _+7,h=>exact absurd h (by omega)
def npbT (base bx:Nat) (B0 off:Nat) (x:Int) (va:Option Addr) (vc:Nat) (acc:List V) (cells:List Value) (O:Obj) (w1:World):Nat→Value→World→Prop
 | 0,v,w=>v = .pointer (some ⟨bx,3,none⟩)
 | 1,v,w=>v = .slice va acc.length vc
 | 2,v,w=>v = .pointer (some ⟨B0,off,none⟩)
 | 3,v,w=>v = .pointer (some ⟨B0,off,none⟩)
 | 4,v,w=>v = .int .i64 x
 | 5,v,w=>v = .agg #[.int .i64 1,.int .i64 x,.string ⟨#[]⟩,.slice none 0 0]
 | 6,v,w=>∃ c,v = .slice (some ⟨c,0,none⟩) 1 1∧w.heap[c]? = some (.cells #[.int .i64 1,.int .i64 x,.string ⟨#[]⟩,.slice none 0 0] 70 (0,0))
 | 7,v,w=>∃ a3 c3 cells3,v = .slice a3 (acc.length+[numV x].length) c3∧MadeB base bx acc [numV x] va vc a3 c3 cells3 w
 | 8,v,w=>v = .pointer (some ⟨bx,3,none⟩)
 | _,_,_=>True
def npbD:Nat→List Nat
 | 7=>[6]
 | _=>[]
theorem npb_keep (base bx:Nat) (B0 off:Nat) (x:Int) (va:Option Addr) (vc:Nat) (acc:List V) (cells:List Value) (O:Obj) (w1:World):∀ (j:Nat) (u:Value) (w w':World),Below w.heap.size w w'→(npbT base bx B0 off x va vc acc cells O w1) j u w→(npbT base bx B0 off x va vc acc cells O w1) j u w'
 | 6,u,w,w',hb,h=>by obtain⟨c,rfl,h3⟩:=h; exact⟨c,rfl,(hb.block _ (lt_of_block h3)).trans h3⟩
 | 7,u,w,w',hb,h=>by obtain⟨a3,c3,cells3,rfl,h1⟩:=h; exact⟨a3,c3,cells3,rfl,h1.under hb⟩
 | 0,u,w,w',hb,h=>h
 | 1,u,w,w',hb,h=>h
 | 2,u,w,w',hb,h=>h
 | 3,u,w,w',hb,h=>h
 | 4,u,w,w',hb,h=>h
 | 5,u,w,w',hb,h=>h
 | 8,u,w,w',hb,h=>h
 | _+9,u,w,w',hb,h=>trivial
set_option maxHeartbeats 4000000 in
theorem npb_steps (base bx:Nat) (B0 off:Nat) (x:Int) (va:Option Addr) (vc:Nat) (acc:List V) (cells:List Value) (O:Obj) (w1:World) (hbw:base≤w1.heap.size) (hB0:B0<w1.heap.size) (hne0:some B0≠(Value.slice va acc.length vc).ownBlock) (hOb:w1.heap[B0]? = some O) (hO:∀ w:World,w.heap[B0]? = some O→w.cell? ⟨B0,off,none⟩=some (.int .i64 x)) (hvl:∀ k,(Value.slice va acc.length vc).ownBlock=some k→k<w1.heap.size) (hn:acc.length≤1000000) (hV:Tryz.prog.underlying 68 = some (.slice 70)) {a:Act}(hs:a.tmps.size=99) (b4:a.eval (.tmp 4) = .pointer (some ⟨bx,0,none⟩)) (b6:a.eval (.tmp 6) = .pointer (some ⟨B0,off,none⟩)):∀ i o,i<9→(regOf Tryz.f10 12)[i]? = some o→StepOkE Tryz.prog (regOf Tryz.f10 12) a (fun e w=>(fun w=>w1.grownBy w (Value.slice va acc.length vc).ownBlock) w∧(e 7=none→(fun w=>MakingB base bx acc va vc cells w) w)) (npbT base bx B0 off x va vc acc cells O w1) npbD i o:=by
 have hz:∀ t,Nat.blt t 99=true→Nat.blt t a.tmps.size=true:=fun t h=>by rw [hs]; exact h
 have hsz:(regOf Tryz.f10 12).size=10:=by kernel_rfl
 intro i o hii ho
 match i,hii with
 | 0,_ =>
   have ho1:=opIs ho (p:=.fieldAddr 70 (.tmp 4) 3) (by kernel_rfl)
   have hg:=guardIs ho (p:=none) (by kernel_rfl)
   intro e A w hA hC hp hup K hk
   have hM:=hC.2 (hup 7 (by kernel_rfl))
   replace hC:=hC.1
   replace hk:Next (regOf Tryz.f10 12) (fun w=>(fun w=>w1.grownBy w (Value.slice va acc.length vc).ownBlock) w∧(fun w=>MakingB base bx acc va vc cells w) w) (npbT base bx B0 off x va vc acc cells O w1) npbD 0 e A w o.dst K:=hk.next fun v w h=>⟨h.1,fun _=>h.2⟩
   have hCM:=And.intro hC hM
   have x4:A.eval (.tmp 4) = .pointer (some ⟨bx,0,none⟩):=filled_base hA (by kernel_rfl) b4
   have hw:Region.wanted o (yielded (regOf Tryz.f10 12) A.tmps)=true:=wanted_free hg
   refine step_pure (v:=.pointer (some ⟨bx,3,none⟩)) hk hCM hw ?_ rfl
   unfold execOp
   simp only [ho1]
   generalize A.eval=ρ at x4 ⊢
   simp [go_sem,x4]
 | 1,_ =>
   have ho1:=opIs ho (p:=.load 68 (.tmp 34)) (by kernel_rfl)
   have hg:=guardIs ho (p:=none) (by kernel_rfl)
   intro e A w hA hC hp hup K hk
   have hM:=hC.2 (hup 7 (by kernel_rfl))
   replace hC:=hC.1
   replace hk:Next (regOf Tryz.f10 12) (fun w=>(fun w=>w1.grownBy w (Value.slice va acc.length vc).ownBlock) w∧(fun w=>MakingB base bx acc va vc cells w) w) (npbT base bx B0 off x va vc acc cells O w1) npbD 1 e A w o.dst K:=hk.next fun v w h=>⟨h.1,fun _=>h.2⟩
   have hCM:=And.intro hC hM
   have x34:A.eval (.tmp 34) = .pointer (some ⟨bx,3,none⟩):=op_tmp hA hp 34 0 (by kernel_rfl) (by kernel_rfl) (by kernel_rfl) (hz _ rfl)
   have hw:Region.wanted o (yielded (regOf Tryz.f10 12) A.tmps)=true:=wanted_free hg
   have e1:=hM.box.c3
   refine step_pure (v:=.slice va acc.length vc) hk hCM hw ?_ rfl
   unfold execOp
   simp only [ho1]
   generalize A.eval=ρ at x34 ⊢
   simp [go_sem,x34,e1]
 | 2,_ =>
   have ho1:=opIs ho (p:=.move (.tmp 6)) (by kernel_rfl)
   have hg:=guardIs ho (p:=none) (by kernel_rfl)
   intro e A w hA hC hp hup K hk
   have hM:=hC.2 (hup 7 (by kernel_rfl))
   replace hC:=hC.1
   replace hk:Next (regOf Tryz.f10 12) (fun w=>(fun w=>w1.grownBy w (Value.slice va acc.length vc).ownBlock) w∧(fun w=>MakingB base bx acc va vc cells w) w) (npbT base bx B0 off x va vc acc cells O w1) npbD 2 e A w o.dst K:=hk.next fun v w h=>⟨h.1,fun _=>h.2⟩
   have hCM:=And.intro hC hM
   have x6:A.eval (.tmp 6) = .pointer (some ⟨B0,off,none⟩):=filled_base hA (by kernel_rfl) b6
   have hw:Region.wanted o (yielded (regOf Tryz.f10 12) A.tmps)=true:=wanted_free hg
   exact step_pure hk hCM hw (run_move ho1 x6 w) rfl
 | 3,_ =>
   have ho1:=opIs ho (p:=.nilCheck (.tmp 36)) (by kernel_rfl)
   have hg:=guardIs ho (p:=none) (by kernel_rfl)
   intro e A w hA hC hp hup K hk
   have hM:=hC.2 (hup 7 (by kernel_rfl))
   replace hC:=hC.1
   replace hk:Next (regOf Tryz.f10 12) (fun w=>(fun w=>w1.grownBy w (Value.slice va acc.length vc).ownBlock) w∧(fun w=>MakingB base bx acc va vc cells w) w) (npbT base bx B0 off x va vc acc cells O w1) npbD 3 e A w o.dst K:=hk.next fun v w h=>⟨h.1,fun _=>h.2⟩
   have hCM:=And.intro hC hM
   have x36:A.eval (.tmp 36) = .pointer (some ⟨B0,off,none⟩):=op_tmp hA hp 36 2 (by kernel_rfl) (by kernel_rfl) (by kernel_rfl) (hz _ rfl)
   have hw:Region.wanted o (yielded (regOf Tryz.f10 12) A.tmps)=true:=wanted_free hg
   refine step_pure (v:=.pointer (some ⟨B0,off,none⟩)) hk hCM hw ?_ rfl
   unfold execOp
   simp only [ho1]
   generalize A.eval=ρ at x36 ⊢
   simp [go_sem,x36]
 | 4,_ =>
   have ho1:=opIs ho (p:=.load 3 (.tmp 37)) (by kernel_rfl)
   have hg:=guardIs ho (p:=none) (by kernel_rfl)
   intro e A w hA hC hp hup K hk
   have hM:=hC.2 (hup 7 (by kernel_rfl))
   replace hC:=hC.1
   replace hk:Next (regOf Tryz.f10 12) (fun w=>(fun w=>w1.grownBy w (Value.slice va acc.length vc).ownBlock) w∧(fun w=>MakingB base bx acc va vc cells w) w) (npbT base bx B0 off x va vc acc cells O w1) npbD 4 e A w o.dst K:=hk.next fun v w h=>⟨h.1,fun _=>h.2⟩
   have hCM:=And.intro hC hM
   have x37:A.eval (.tmp 37) = .pointer (some ⟨B0,off,none⟩):=op_tmp hA hp 37 3 (by kernel_rfl) (by kernel_rfl) (by kernel_rfl) (hz _ rfl)
   have hw:Region.wanted o (yielded (regOf Tryz.f10 12) A.tmps)=true:=wanted_free hg
   have e1:=hO w ((hC.block B0 hB0 hne0).trans hOb)
   refine step_pure (v:=.int .i64 x) hk hCM hw ?_ rfl
   unfold execOp
   simp only [ho1]
   generalize A.eval=ρ at x37 ⊢
   simp [go_sem,x37,e1]
 | 5,_ =>
   have ho1:=opIs ho (p:=.call { callee:=(.value (.func 35)),args:=#[(.tmp 38)],argTypes:=#[3] }) (by kernel_rfl)
   have hg:=guardIs ho (p:=none) (by kernel_rfl)
   intro e A w hA hC hp hup K hk
   have hM:=hC.2 (hup 7 (by kernel_rfl))
   replace hC:=hC.1
   replace hk:Next (regOf Tryz.f10 12) (fun w=>(fun w=>w1.grownBy w (Value.slice va acc.length vc).ownBlock) w∧(fun w=>MakingB base bx acc va vc cells w) w) (npbT base bx B0 off x va vc acc cells O w1) npbD 5 e A w o.dst K:=hk.next fun v w h=>⟨h.1,fun _=>h.2⟩
   have hCM:=And.intro hC hM
   have x38:A.eval (.tmp 38) = .int .i64 x:=op_tmp hA hp 38 4 (by kernel_rfl) (by kernel_rfl) (by kernel_rfl) (hz _ rfl)
   have hw:Region.wanted o (yielded (regOf Tryz.f10 12) A.tmps)=true:=wanted_free hg
   refine step_call (f:=35) (args:=#[.int .i64 x]) hk hw ?_ ?_
   ·unfold execOp
    simp only [ho1]
    have xf:∀ f,A.eval (.func f) = .func (.func f) #[] #[]:=fun _=>rfl
    generalize A.eval=ρ at x38 xf ⊢
    simp [go_sem,xf,x38]
   ·refine (nnum_any x w).mono ?_
    rintro en w' ⟨rfl,hb'⟩
    exact⟨_,rfl,rfl,⟨grown_trans hC (grown_of_below hb' _),hM.under hb'⟩,fun j u _ _ _ _ h=>npb_keep base bx B0 off x va vc acc cells O w1 j u w _ hb' h⟩
 | 6,_ =>
   have ho1:=opIs ho (p:=.buildSlice 68 1 #[(0,(.tmp 39))]) (by kernel_rfl)
   have hg:=guardIs ho (p:=none) (by kernel_rfl)
   intro e A w hA hC hp hup K hk
   have hM:=hC.2 (hup 7 (by kernel_rfl))
   replace hC:=hC.1
   replace hk:Next (regOf Tryz.f10 12) (fun w=>(fun w=>w1.grownBy w (Value.slice va acc.length vc).ownBlock) w∧(fun w=>MakingB base bx acc va vc cells w) w) (npbT base bx B0 off x va vc acc cells O w1) npbD 6 e A w o.dst K:=hk.next fun v w h=>⟨h.1,fun _=>h.2⟩
   have hCM:=And.intro hC hM
   have x39:A.eval (.tmp 39) = .agg #[.int .i64 1,.int .i64 x,.string ⟨#[]⟩,.slice none 0 0]:=op_tmp hA hp 39 5 (by kernel_rfl) (by kernel_rfl) (by kernel_rfl) (hz _ rfl)
   have hw:Region.wanted o (yielded (regOf Tryz.f10 12) A.tmps)=true:=wanted_free hg
   refine step_value (v:=.slice (some ⟨w.heap.size,0,none⟩) 1 1) (w':=w.alloc (.cells #[.int .i64 1,.int .i64 x,.string ⟨#[]⟩,.slice none 0 0] 70)) hk hw ?_ ?_ ?_ ?_
   ·unfold execOp
    simp only [ho1]
    generalize A.eval=ρ at x39 ⊢
    simp [go_sem,x39]
   ·exact⟨w.heap.size,rfl,heap_alloc_new w _⟩
   ·exact⟨grown_trans hC (World.grownBy_alloc w _ _),hM.under ((Below.refl _ w).alloc (Nat.le_refl _) _)⟩
   ·intro j u _ _ _ _ h
    exact npb_keep base bx B0 off x va vc acc cells O w1 j u w _ ((Below.refl _ w).alloc (Nat.le_refl _) _) h
 | 7,_ =>
   have ho1:=opIs ho (p:=.call { callee:=(.builtin .append),args:=#[(.tmp 35),(.tmp 40)],argTypes:=#[68,68] }) (by kernel_rfl)
   have hg:=guardIs ho (p:=none) (by kernel_rfl)
   intro e A w hA hC hp hup K hk
   have hM:=hC.2 (hup 7 (by kernel_rfl))
   have x35:A.eval (.tmp 35) = .slice va acc.length vc:=op_tmp hA hp 35 1 (by kernel_rfl) (by kernel_rfl) (by kernel_rfl) (hz _ rfl)
   have x40:=op_tmp hA hp 40 6 (by kernel_rfl) (by kernel_rfl) (by kernel_rfl) (hz _ rfl)
   have hw:Region.wanted o (yielded (regOf Tryz.f10 12) A.tmps)=true:=wanted_free hg
   obtain⟨c,x40,h3⟩:=x40
   have hat:V.At w (fun p=>w1.heap.size≤p∧p<w.heap.size) (numV x) [.int .i64 1,.int .i64 x,.string ⟨#[]⟩,.slice none 0 0]:=by
    simp only [numV,V.At,VAll]
    exact⟨none,0,rfl,Nat.le_refl _,fun _=>rfl,trivial⟩
   have hrw:RowOf w (fun p=>w1.heap.size≤p∧p<w.heap.size) [numV x] [.int .i64 1,.int .i64 x,.string ⟨#[]⟩,.slice none 0 0]:=by have:=RowOf.snoc RowOf.nil hat; exact this
   obtain⟨a3,c3,cells3,w',hr,hg,hmade⟩:=makingB_append hM [numV x] _ 1 c w1.heap.size _ 68 o.type hV h3 rfl hrw hbw hvl (by decide) (by decide) hn
   rw [if_pos hw]
   unfold Oper.wp
   rw [show (execOp A.eval o).run Tryz.prog w = .ok (.value (.slice a3 (acc.length+[numV x].length) c3)) w' by
    unfold execOp
    simp only [ho1,resolve,invoke,builtin,Sem.run_bind,Sem.run_pure,Result.andThen_ok,List.map_toArray,List.map_cons,List.map_nil,x35,x40,hr]]
   refine hk _ _ ⟨a3,c3,cells3,rfl,hmade⟩ ⟨grown_trans hC.1 hg,fun h=>by rw [Vals.set_same] at h; cases h⟩ ?_
   intro j u hj hji _ hd h
   match j,h with
   | 0,h=>exact h
   | 1,h=>exact h
   | 2,h=>exact h
   | 3,h=>exact h
   | 4,h=>exact h
   | 5,h=>exact h
   | 6,h=>exact absurd rfl (hd 7 (by rw [hsz]; decide) rfl).1
   | 7,h=>exact absurd rfl hji
   | 8,h=>exact h
   | _+9,h=>trivial
 | 8,_ =>
   have ho1:=opIs ho (p:=.fieldAddr 70 (.tmp 4) 3) (by kernel_rfl)
   have hg:=guardIs ho (p:=none) (by kernel_rfl)
   intro e A w hA hC hp hup K hk
   replace hk:Next (regOf Tryz.f10 12) (fun w=>(fun w=>w1.grownBy w (Value.slice va acc.length vc).ownBlock) w∧(e 7=none→(fun w=>MakingB base bx acc va vc cells w) w)) (npbT base bx B0 off x va vc acc cells O w1) npbD 8 e A w o.dst K:=hk.next fun v w h=>⟨h.1,fun he=>h.2 (by rwa [Vals.set_other e v (by decide)] at he)⟩
   have hCM:=hC
   have x4:A.eval (.tmp 4) = .pointer (some ⟨bx,0,none⟩):=filled_base hA (by kernel_rfl) b4
   have hw:Region.wanted o (yielded (regOf Tryz.f10 12) A.tmps)=true:=wanted_free hg
   refine step_pure (v:=.pointer (some ⟨bx,3,none⟩)) hk hCM hw ?_ rfl
   unfold execOp
   simp only [ho1]
   generalize A.eval=ρ at x4 ⊢
   simp [go_sem,x4]
 | _+9,h=>exact absurd h (by omega)
def npcT (base bx:Nat) (x:Int) (va:Option Addr) (vc:Nat) (acc:List V) (cells:List Value) (w1:World):Nat→Value→World→Prop
 | 0,v,w=>v = .pointer (some ⟨bx,3,none⟩)
 | 1,v,w=>v = .slice va acc.length vc
 | 2,v,w=>v = .int .i64 x
 | 3,v,w=>v = .agg #[.int .i64 1,.int .i64 x,.string ⟨#[]⟩,.slice none 0 0]
 | 4,v,w=>∃ c,v = .slice (some ⟨c,0,none⟩) 1 1∧w.heap[c]? = some (.cells #[.int .i64 1,.int .i64 x,.string ⟨#[]⟩,.slice none 0 0] 70 (0,0))
 | 5,v,w=>∃ a3 c3 cells3,v = .slice a3 (acc.length+[numV x].length) c3∧MadeB base bx acc [numV x] va vc a3 c3 cells3 w
 | 6,v,w=>v = .pointer (some ⟨bx,3,none⟩)
 | _,_,_=>True
def npcD:Nat→List Nat
 | 5=>[4]
 | _=>[]
theorem npc_keep (base bx:Nat) (x:Int) (va:Option Addr) (vc:Nat) (acc:List V) (cells:List Value) (w1:World):∀ (j:Nat) (u:Value) (w w':World),Below w.heap.size w w'→(npcT base bx x va vc acc cells w1) j u w→(npcT base bx x va vc acc cells w1) j u w'
 | 4,u,w,w',hb,h=>by obtain⟨c,rfl,h3⟩:=h; exact⟨c,rfl,(hb.block _ (lt_of_block h3)).trans h3⟩
 | 5,u,w,w',hb,h=>by obtain⟨a3,c3,cells3,rfl,h1⟩:=h; exact⟨a3,c3,cells3,rfl,h1.under hb⟩
 | 0,u,w,w',hb,h=>h
 | 1,u,w,w',hb,h=>h
 | 2,u,w,w',hb,h=>h
 | 3,u,w,w',hb,h=>h
 | 6,u,w,w',hb,h=>h
 | _+7,u,w,w',hb,h=>trivial
set_option maxHeartbeats 4000000 in
theorem npc_steps (base bx:Nat) (x:Int) (va:Option Addr) (vc:Nat) (acc:List V) (cells:List Value) (w1:World) (hbw:base≤w1.heap.size) (hvl:∀ k,(Value.slice va acc.length vc).ownBlock=some k→k<w1.heap.size) (hn:acc.length≤1000000) (hV:Tryz.prog.underlying 68 = some (.slice 70)) {a:Act}(hs:a.tmps.size=99) (b8:a.eval (.tmp 8) = .pointer (some ⟨bx,0,none⟩)) (b11:a.eval (.tmp 11) = .int .i64 x):∀ i o,i<7→(regOf Tryz.f10 18)[i]? = some o→StepOkE Tryz.prog (regOf Tryz.f10 18) a (fun e w=>(fun w=>w1.grownBy w (Value.slice va acc.length vc).ownBlock) w∧(e 5=none→(fun w=>MakingB base bx acc va vc cells w) w)) (npcT base bx x va vc acc cells w1) npcD i o:=by
 have hz:∀ t,Nat.blt t 99=true→Nat.blt t a.tmps.size=true:=fun t h=>by rw [hs]; exact h
 have hsz:(regOf Tryz.f10 18).size=8:=by kernel_rfl
 intro i o hii ho
 match i,hii with
 | 0,_ =>
   have ho1:=opIs ho (p:=.fieldAddr 70 (.tmp 8) 3) (by kernel_rfl)
   have hg:=guardIs ho (p:=none) (by kernel_rfl)
   intro e A w hA hC hp hup K hk
   have hM:=hC.2 (hup 5 (by kernel_rfl))
   replace hC:=hC.1
   replace hk:Next (regOf Tryz.f10 18) (fun w=>(fun w=>w1.grownBy w (Value.slice va acc.length vc).ownBlock) w∧(fun w=>MakingB base bx acc va vc cells w) w) (npcT base bx x va vc acc cells w1) npcD 0 e A w o.dst K:=hk.next fun v w h=>⟨h.1,fun _=>h.2⟩
   have hCM:=And.intro hC hM
   have x8:A.eval (.tmp 8) = .pointer (some ⟨bx,0,none⟩):=filled_base hA (by kernel_rfl) b8
   have hw:Region.wanted o (yielded (regOf Tryz.f10 18) A.tmps)=true:=wanted_free hg
   refine step_pure (v:=.pointer (some ⟨bx,3,none⟩)) hk hCM hw ?_ rfl
   unfold execOp
   simp only [ho1]
   generalize A.eval=ρ at x8 ⊢
   simp [go_sem,x8]
 | 1,_ =>
   have ho1:=opIs ho (p:=.load 68 (.tmp 53)) (by kernel_rfl)
   have hg:=guardIs ho (p:=none) (by kernel_rfl)
   intro e A w hA hC hp hup K hk
   have hM:=hC.2 (hup 5 (by kernel_rfl))
   replace hC:=hC.1
   replace hk:Next (regOf Tryz.f10 18) (fun w=>(fun w=>w1.grownBy w (Value.slice va acc.length vc).ownBlock) w∧(fun w=>MakingB base bx acc va vc cells w) w) (npcT base bx x va vc acc cells w1) npcD 1 e A w o.dst K:=hk.next fun v w h=>⟨h.1,fun _=>h.2⟩
   have hCM:=And.intro hC hM
   have x53:A.eval (.tmp 53) = .pointer (some ⟨bx,3,none⟩):=op_tmp hA hp 53 0 (by kernel_rfl) (by kernel_rfl) (by kernel_rfl) (hz _ rfl)
   have hw:Region.wanted o (yielded (regOf Tryz.f10 18) A.tmps)=true:=wanted_free hg
   have e1:=hM.box.c3
   refine step_pure (v:=.slice va acc.length vc) hk hCM hw ?_ rfl
   unfold execOp
   simp only [ho1]
   generalize A.eval=ρ at x53 ⊢
   simp [go_sem,x53,e1]
 | 2,_ =>
   have ho1:=opIs ho (p:=.move (.tmp 11)) (by kernel_rfl)
   have hg:=guardIs ho (p:=none) (by kernel_rfl)
   intro e A w hA hC hp hup K hk
   have hM:=hC.2 (hup 5 (by kernel_rfl))
   replace hC:=hC.1
   replace hk:Next (regOf Tryz.f10 18) (fun w=>(fun w=>w1.grownBy w (Value.slice va acc.length vc).ownBlock) w∧(fun w=>MakingB base bx acc va vc cells w) w) (npcT base bx x va vc acc cells w1) npcD 2 e A w o.dst K:=hk.next fun v w h=>⟨h.1,fun _=>h.2⟩
   have hCM:=And.intro hC hM
   have x11:A.eval (.tmp 11) = .int .i64 x:=filled_base hA (by kernel_rfl) b11
   have hw:Region.wanted o (yielded (regOf Tryz.f10 18) A.tmps)=true:=wanted_free hg
   exact step_pure hk hCM hw (run_move ho1 x11 w) rfl
 | 3,_ =>
   have ho1:=opIs ho (p:=.call { callee:=(.value (.func 35)),args:=#[(.tmp 55)],argTypes:=#[3] }) (by kernel_rfl)
   have hg:=guardIs ho (p:=none) (by kernel_rfl)
   intro e A w hA hC hp hup K hk
   have hM:=hC.2 (hup 5 (by kernel_rfl))
   replace hC:=hC.1
   replace hk:Next (regOf Tryz.f10 18) (fun w=>(fun w=>w1.grownBy w (Value.slice va acc.length vc).ownBlock) w∧(fun w=>MakingB base bx acc va vc cells w) w) (npcT base bx x va vc acc cells w1) npcD 3 e A w o.dst K:=hk.next fun v w h=>⟨h.1,fun _=>h.2⟩
   have hCM:=And.intro hC hM
   have x55:A.eval (.tmp 55) = .int .i64 x:=op_tmp hA hp 55 2 (by kernel_rfl) (by kernel_rfl) (by kernel_rfl) (hz _ rfl)
   have hw:Region.wanted o (yielded (regOf Tryz.f10 18) A.tmps)=true:=wanted_free hg
   refine step_call (f:=35) (args:=#[.int .i64 x]) hk hw ?_ ?_
   ·unfold execOp
    simp only [ho1]
    have xf:∀ f,A.eval (.func f) = .func (.func f) #[] #[]:=fun _=>rfl
    generalize A.eval=ρ at x55 xf ⊢
    simp [go_sem,xf,x55]
   ·refine (nnum_any x w).mono ?_
    rintro en w' ⟨rfl,hb'⟩
    exact⟨_,rfl,rfl,⟨grown_trans hC (grown_of_below hb' _),hM.under hb'⟩,fun j u _ _ _ _ h=>npc_keep base bx x va vc acc cells w1 j u w _ hb' h⟩
 | 4,_ =>
   have ho1:=opIs ho (p:=.buildSlice 68 1 #[(0,(.tmp 56))]) (by kernel_rfl)
   have hg:=guardIs ho (p:=none) (by kernel_rfl)
   intro e A w hA hC hp hup K hk
   have hM:=hC.2 (hup 5 (by kernel_rfl))
   replace hC:=hC.1
   replace hk:Next (regOf Tryz.f10 18) (fun w=>(fun w=>w1.grownBy w (Value.slice va acc.length vc).ownBlock) w∧(fun w=>MakingB base bx acc va vc cells w) w) (npcT base bx x va vc acc cells w1) npcD 4 e A w o.dst K:=hk.next fun v w h=>⟨h.1,fun _=>h.2⟩
   have hCM:=And.intro hC hM
   have x56:A.eval (.tmp 56) = .agg #[.int .i64 1,.int .i64 x,.string ⟨#[]⟩,.slice none 0 0]:=op_tmp hA hp 56 3 (by kernel_rfl) (by kernel_rfl) (by kernel_rfl) (hz _ rfl)
   have hw:Region.wanted o (yielded (regOf Tryz.f10 18) A.tmps)=true:=wanted_free hg
   refine step_value (v:=.slice (some ⟨w.heap.size,0,none⟩) 1 1) (w':=w.alloc (.cells #[.int .i64 1,.int .i64 x,.string ⟨#[]⟩,.slice none 0 0] 70)) hk hw ?_ ?_ ?_ ?_
   ·unfold execOp
    simp only [ho1]
    generalize A.eval=ρ at x56 ⊢
    simp [go_sem,x56]
   ·exact⟨w.heap.size,rfl,heap_alloc_new w _⟩
   ·exact⟨grown_trans hC (World.grownBy_alloc w _ _),hM.under ((Below.refl _ w).alloc (Nat.le_refl _) _)⟩
   ·intro j u _ _ _ _ h
    exact npc_keep base bx x va vc acc cells w1 j u w _ ((Below.refl _ w).alloc (Nat.le_refl _) _) h
 | 5,_ =>
   have ho1:=opIs ho (p:=.call { callee:=(.builtin .append),args:=#[(.tmp 54),(.tmp 57)],argTypes:=#[68,68] }) (by kernel_rfl)
   have hg:=guardIs ho (p:=none) (by kernel_rfl)
   intro e A w hA hC hp hup K hk
   have hM:=hC.2 (hup 5 (by kernel_rfl))
   have x54:A.eval (.tmp 54) = .slice va acc.length vc:=op_tmp hA hp 54 1 (by kernel_rfl) (by kernel_rfl) (by kernel_rfl) (hz _ rfl)
   have x57:=op_tmp hA hp 57 4 (by kernel_rfl) (by kernel_rfl) (by kernel_rfl) (hz _ rfl)
   have hw:Region.wanted o (yielded (regOf Tryz.f10 18) A.tmps)=true:=wanted_free hg
   obtain⟨c,x57,h3⟩:=x57
   have hat:V.At w (fun p=>w1.heap.size≤p∧p<w.heap.size) (numV x) [.int .i64 1,.int .i64 x,.string ⟨#[]⟩,.slice none 0 0]:=by
    simp only [numV,V.At,VAll]
    exact⟨none,0,rfl,Nat.le_refl _,fun _=>rfl,trivial⟩
   have hrw:RowOf w (fun p=>w1.heap.size≤p∧p<w.heap.size) [numV x] [.int .i64 1,.int .i64 x,.string ⟨#[]⟩,.slice none 0 0]:=by have:=RowOf.snoc RowOf.nil hat; exact this
   obtain⟨a3,c3,cells3,w',hr,hg,hmade⟩:=makingB_append hM [numV x] _ 1 c w1.heap.size _ 68 o.type hV h3 rfl hrw hbw hvl (by decide) (by decide) hn
   rw [if_pos hw]
   unfold Oper.wp
   rw [show (execOp A.eval o).run Tryz.prog w = .ok (.value (.slice a3 (acc.length+[numV x].length) c3)) w' by
    unfold execOp
    simp only [ho1,resolve,invoke,builtin,Sem.run_bind,Sem.run_pure,Result.andThen_ok,List.map_toArray,List.map_cons,List.map_nil,x54,x57,hr]]
   refine hk _ _ ⟨a3,c3,cells3,rfl,hmade⟩ ⟨grown_trans hC.1 hg,fun h=>by rw [Vals.set_same] at h; cases h⟩ ?_
   intro j u hj hji _ hd h
   match j,h with
   | 0,h=>exact h
   | 1,h=>exact h
   | 2,h=>exact h
   | 3,h=>exact h
   | 4,h=>exact absurd rfl (hd 5 (by rw [hsz]; decide) rfl).1
   | 5,h=>exact absurd rfl hji
   | 6,h=>exact h
   | _+7,h=>trivial
 | 6,_ =>
   have ho1:=opIs ho (p:=.fieldAddr 70 (.tmp 8) 3) (by kernel_rfl)
   have hg:=guardIs ho (p:=none) (by kernel_rfl)
   intro e A w hA hC hp hup K hk
   replace hk:Next (regOf Tryz.f10 18) (fun w=>(fun w=>w1.grownBy w (Value.slice va acc.length vc).ownBlock) w∧(e 5=none→(fun w=>MakingB base bx acc va vc cells w) w)) (npcT base bx x va vc acc cells w1) npcD 6 e A w o.dst K:=hk.next fun v w h=>⟨h.1,fun he=>h.2 (by rwa [Vals.set_other e v (by decide)] at he)⟩
   have hCM:=hC
   have x8:A.eval (.tmp 8) = .pointer (some ⟨bx,0,none⟩):=filled_base hA (by kernel_rfl) b8
   have hw:Region.wanted o (yielded (regOf Tryz.f10 18) A.tmps)=true:=wanted_free hg
   refine step_pure (v:=.pointer (some ⟨bx,3,none⟩)) hk hCM hw ?_ rfl
   unfold execOp
   simp only [ho1]
   generalize A.eval=ρ at x8 ⊢
   simp [go_sem,x8]
 | _+7,h=>exact absurd h (by omega)
def npdT (base bx BR:Nat) (rt rk:Int) (rd:ByteArray) (va:Option Addr) (vc:Nat) (acc:List V) (cells:List Value) (w1:World):Nat→Value→World→Prop
 | 0,v,w=>v = .pointer (some ⟨bx,3,none⟩)
 | 1,v,w=>v = .slice va acc.length vc
 | 2,v,w=>v = .pointer (some ⟨BR,0,none⟩)
 | 3,v,w=>v = .int .i64 rt
 | 4,v,w=>v = .agg #[.int .i64 1,.int .i64 rt,.string ⟨#[]⟩,.slice none 0 0]
 | 5,v,w=>v = .pointer (some ⟨BR,1,none⟩)
 | 6,v,w=>v = .int .i64 rk
 | 7,v,w=>v = .agg #[.int .i64 1,.int .i64 rk,.string ⟨#[]⟩,.slice none 0 0]
 | 8,v,w=>v = .pointer (some ⟨BR,2,none⟩)
 | 9,v,w=>v = .string rd
 | 10,v,w=>v = .agg #[.int .i64 2,.int .i64 0,.string rd,.slice none 0 0]
 | 11,v,w=>∃ b,v = .slice (some ⟨b,0,none⟩) 3 3∧w1.heap.size≤b∧w.heap[b]? = some (.cells #[.int .i64 1,.int .i64 rt,.string ⟨#[]⟩,.slice none 0 0,.int .i64 1,.int .i64 rk,.string ⟨#[]⟩,.slice none 0 0,.int .i64 2,.int .i64 0,.string rd,.slice none 0 0] 70 (0,0))
 | 12,v,w=>∃ b,v = .agg #[.int .i64 3,.int .i64 0,.string ⟨#[]⟩,.slice (some ⟨b,0,none⟩) 3 3]∧w1.heap.size≤b∧w.heap[b]? = some (.cells #[.int .i64 1,.int .i64 rt,.string ⟨#[]⟩,.slice none 0 0,.int .i64 1,.int .i64 rk,.string ⟨#[]⟩,.slice none 0 0,.int .i64 2,.int .i64 0,.string rd,.slice none 0 0] 70 (0,0))
 | 13,v,w=>∃ b c,v = .slice (some ⟨c,0,none⟩) 1 1∧(w1.heap.size≤b∧w.heap[b]? = some (.cells #[.int .i64 1,.int .i64 rt,.string ⟨#[]⟩,.slice none 0 0,.int .i64 1,.int .i64 rk,.string ⟨#[]⟩,.slice none 0 0,.int .i64 2,.int .i64 0,.string rd,.slice none 0 0] 70 (0,0)))∧w.heap[c]? = some (.cells #[.int .i64 3,.int .i64 0,.string ⟨#[]⟩,.slice (some ⟨b,0,none⟩) 3 3] 70 (0,0))
 | 14,v,w=>∃ a3 c3 cells3,v = .slice a3 (acc.length+[recV ⟨rt,rk,rd⟩].length) c3∧MadeB base bx acc [recV ⟨rt,rk,rd⟩] va vc a3 c3 cells3 w
 | 15,v,w=>v = .pointer (some ⟨bx,3,none⟩)
 | _,_,_=>True
def npdD:Nat→List Nat
 | 14=>[13]
 | _=>[]
theorem npd_keep (base bx BR:Nat) (rt rk:Int) (rd:ByteArray) (va:Option Addr) (vc:Nat) (acc:List V) (cells:List Value) (w1:World):∀ (j:Nat) (u:Value) (w w':World),Below w.heap.size w w'→(npdT base bx BR rt rk rd va vc acc cells w1) j u w→(npdT base bx BR rt rk rd va vc acc cells w1) j u w'
 | 11,u,w,w',hb,h=>by obtain⟨b,rfl,h1,h2⟩:=h; exact⟨b,rfl,h1,(hb.block _ (lt_of_block h2)).trans h2⟩
 | 12,u,w,w',hb,h=>by obtain⟨b,rfl,h1,h2⟩:=h; exact⟨b,rfl,h1,(hb.block _ (lt_of_block h2)).trans h2⟩
 | 13,u,w,w',hb,h=>by obtain⟨b,c,rfl,⟨h1,h2⟩,h3⟩:=h; exact⟨b,c,rfl,⟨h1,(hb.block _ (lt_of_block h2)).trans h2⟩,(hb.block _ (lt_of_block h3)).trans h3⟩
 | 14,u,w,w',hb,h=>by obtain⟨a3,c3,cells3,rfl,h1⟩:=h; exact⟨a3,c3,cells3,rfl,h1.under hb⟩
 | 0,u,w,w',hb,h=>h
 | 1,u,w,w',hb,h=>h
 | 2,u,w,w',hb,h=>h
 | 3,u,w,w',hb,h=>h
 | 4,u,w,w',hb,h=>h
 | 5,u,w,w',hb,h=>h
 | 6,u,w,w',hb,h=>h
 | 7,u,w,w',hb,h=>h
 | 8,u,w,w',hb,h=>h
 | 9,u,w,w',hb,h=>h
 | 10,u,w,w',hb,h=>h
 | 15,u,w,w',hb,h=>h
 | _+16,u,w,w',hb,h=>trivial
set_option maxHeartbeats 4000000 in
theorem npd_steps (base bx BR:Nat) (rt rk:Int) (rd:ByteArray) (va:Option Addr) (vc:Nat) (acc:List V) (cells:List Value) (w1:World) (hbw:base≤w1.heap.size) (hBRl:BR<w1.heap.size) (hBRn:some BR≠(Value.slice va acc.length vc).ownBlock) (hBRo:w1.heap[BR]? = some (.cells #[.int .i64 rt,.int .i64 rk,.string rd] 67 (0,0))) (hvl:∀ k,(Value.slice va acc.length vc).ownBlock=some k→k<w1.heap.size) (hn:acc.length≤1000000) (hV:Tryz.prog.underlying 68 = some (.slice 70)) {a:Act}(hs:a.tmps.size=99) (b9:a.eval (.tmp 9) = .pointer (some ⟨bx,0,none⟩)) (b13:a.eval (.tmp 13) = .pointer (some ⟨BR,0,none⟩)):∀ i o,i<16→(regOf Tryz.f10 23)[i]? = some o→StepOkE Tryz.prog (regOf Tryz.f10 23) a (fun e w=>(fun w=>w1.grownBy w (Value.slice va acc.length vc).ownBlock) w∧(e 14=none→(fun w=>MakingB base bx acc va vc cells w) w)) (npdT base bx BR rt rk rd va vc acc cells w1) npdD i o:=by
 have hz:∀ t,Nat.blt t 99=true→Nat.blt t a.tmps.size=true:=fun t h=>by rw [hs]; exact h
 have hsz:(regOf Tryz.f10 23).size=17:=by kernel_rfl
 intro i o hii ho
 match i,hii with
 | 0,_ =>
   have ho1:=opIs ho (p:=.fieldAddr 70 (.tmp 9) 3) (by kernel_rfl)
   have hg:=guardIs ho (p:=none) (by kernel_rfl)
   intro e A w hA hC hp hup K hk
   have hM:=hC.2 (hup 14 (by kernel_rfl))
   replace hC:=hC.1
   replace hk:Next (regOf Tryz.f10 23) (fun w=>(fun w=>w1.grownBy w (Value.slice va acc.length vc).ownBlock) w∧(fun w=>MakingB base bx acc va vc cells w) w) (npdT base bx BR rt rk rd va vc acc cells w1) npdD 0 e A w o.dst K:=hk.next fun v w h=>⟨h.1,fun _=>h.2⟩
   have hCM:=And.intro hC hM
   have x9:A.eval (.tmp 9) = .pointer (some ⟨bx,0,none⟩):=filled_base hA (by kernel_rfl) b9
   have hw:Region.wanted o (yielded (regOf Tryz.f10 23) A.tmps)=true:=wanted_free hg
   refine step_pure (v:=.pointer (some ⟨bx,3,none⟩)) hk hCM hw ?_ rfl
   unfold execOp
   simp only [ho1]
   generalize A.eval=ρ at x9 ⊢
   simp [go_sem,x9]
 | 1,_ =>
   have ho1:=opIs ho (p:=.load 68 (.tmp 68)) (by kernel_rfl)
   have hg:=guardIs ho (p:=none) (by kernel_rfl)
   intro e A w hA hC hp hup K hk
   have hM:=hC.2 (hup 14 (by kernel_rfl))
   replace hC:=hC.1
   replace hk:Next (regOf Tryz.f10 23) (fun w=>(fun w=>w1.grownBy w (Value.slice va acc.length vc).ownBlock) w∧(fun w=>MakingB base bx acc va vc cells w) w) (npdT base bx BR rt rk rd va vc acc cells w1) npdD 1 e A w o.dst K:=hk.next fun v w h=>⟨h.1,fun _=>h.2⟩
   have hCM:=And.intro hC hM
   have x68:A.eval (.tmp 68) = .pointer (some ⟨bx,3,none⟩):=op_tmp hA hp 68 0 (by kernel_rfl) (by kernel_rfl) (by kernel_rfl) (hz _ rfl)
   have hw:Region.wanted o (yielded (regOf Tryz.f10 23) A.tmps)=true:=wanted_free hg
   have e1:=hM.box.c3
   refine step_pure (v:=.slice va acc.length vc) hk hCM hw ?_ rfl
   unfold execOp
   simp only [ho1]
   generalize A.eval=ρ at x68 ⊢
   simp [go_sem,x68,e1]
 | 2,_ =>
   have ho1:=opIs ho (p:=.fieldAddr 67 (.tmp 13) 0) (by kernel_rfl)
   have hg:=guardIs ho (p:=none) (by kernel_rfl)
   intro e A w hA hC hp hup K hk
   have hM:=hC.2 (hup 14 (by kernel_rfl))
   replace hC:=hC.1
   replace hk:Next (regOf Tryz.f10 23) (fun w=>(fun w=>w1.grownBy w (Value.slice va acc.length vc).ownBlock) w∧(fun w=>MakingB base bx acc va vc cells w) w) (npdT base bx BR rt rk rd va vc acc cells w1) npdD 2 e A w o.dst K:=hk.next fun v w h=>⟨h.1,fun _=>h.2⟩
   have hCM:=And.intro hC hM
   have x13:A.eval (.tmp 13) = .pointer (some ⟨BR,0,none⟩):=filled_base hA (by kernel_rfl) b13
   have hw:Region.wanted o (yielded (regOf Tryz.f10 23) A.tmps)=true:=wanted_free hg
   refine step_pure (v:=.pointer (some ⟨BR,0,none⟩)) hk hCM hw ?_ rfl
   unfold execOp
   simp only [ho1]
   generalize A.eval=ρ at x13 ⊢
   simp [go_sem,x13]
 | 3,_ =>
   have ho1:=opIs ho (p:=.load 3 (.tmp 70)) (by kernel_rfl)
   have hg:=guardIs ho (p:=none) (by kernel_rfl)
   intro e A w hA hC hp hup K hk
   have hM:=hC.2 (hup 14 (by kernel_rfl))
   replace hC:=hC.1
   replace hk:Next (regOf Tryz.f10 23) (fun w=>(fun w=>w1.grownBy w (Value.slice va acc.length vc).ownBlock) w∧(fun w=>MakingB base bx acc va vc cells w) w) (npdT base bx BR rt rk rd va vc acc cells w1) npdD 3 e A w o.dst K:=hk.next fun v w h=>⟨h.1,fun _=>h.2⟩
   have hCM:=And.intro hC hM
   have x70:A.eval (.tmp 70) = .pointer (some ⟨BR,0,none⟩):=op_tmp hA hp 70 2 (by kernel_rfl) (by kernel_rfl) (by kernel_rfl) (hz _ rfl)
   have hw:Region.wanted o (yielded (regOf Tryz.f10 23) A.tmps)=true:=wanted_free hg
   have e1:=(Lib.cell_of_heap ((hC.block BR hBRl hBRn).trans hBRo) 0).trans (show _=some (Value.int .i64 rt) from rfl)
   refine step_pure (v:=.int .i64 rt) hk hCM hw ?_ rfl
   unfold execOp
   simp only [ho1]
   generalize A.eval=ρ at x70 ⊢
   simp [go_sem,x70,e1]
 | 4,_ =>
   have ho1:=opIs ho (p:=.call { callee:=(.value (.func 35)),args:=#[(.tmp 71)],argTypes:=#[3] }) (by kernel_rfl)
   have hg:=guardIs ho (p:=none) (by kernel_rfl)
   intro e A w hA hC hp hup K hk
   have hM:=hC.2 (hup 14 (by kernel_rfl))
   replace hC:=hC.1
   replace hk:Next (regOf Tryz.f10 23) (fun w=>(fun w=>w1.grownBy w (Value.slice va acc.length vc).ownBlock) w∧(fun w=>MakingB base bx acc va vc cells w) w) (npdT base bx BR rt rk rd va vc acc cells w1) npdD 4 e A w o.dst K:=hk.next fun v w h=>⟨h.1,fun _=>h.2⟩
   have hCM:=And.intro hC hM
   have x71:A.eval (.tmp 71) = .int .i64 rt:=op_tmp hA hp 71 3 (by kernel_rfl) (by kernel_rfl) (by kernel_rfl) (hz _ rfl)
   have hw:Region.wanted o (yielded (regOf Tryz.f10 23) A.tmps)=true:=wanted_free hg
   refine step_call (f:=35) (args:=#[.int .i64 rt]) hk hw ?_ ?_
   ·unfold execOp
    simp only [ho1]
    have xf:∀ f,A.eval (.func f) = .func (.func f) #[] #[]:=fun _=>rfl
    generalize A.eval=ρ at x71 xf ⊢
    simp [go_sem,xf,x71]
   ·refine (nnum_any rt w).mono ?_
    rintro en w' ⟨rfl,hb'⟩
    exact⟨_,rfl,rfl,⟨grown_trans hC (grown_of_below hb' _),hM.under hb'⟩,fun j u _ _ _ _ h=>npd_keep base bx BR rt rk rd va vc acc cells w1 j u w _ hb' h⟩
 | 5,_ =>
   have ho1:=opIs ho (p:=.fieldAddr 67 (.tmp 13) 1) (by kernel_rfl)
   have hg:=guardIs ho (p:=none) (by kernel_rfl)
   intro e A w hA hC hp hup K hk
   have hM:=hC.2 (hup 14 (by kernel_rfl))
   replace hC:=hC.1
   replace hk:Next (regOf Tryz.f10 23) (fun w=>(fun w=>w1.grownBy w (Value.slice va acc.length vc).ownBlock) w∧(fun w=>MakingB base bx acc va vc cells w) w) (npdT base bx BR rt rk rd va vc acc cells w1) npdD 5 e A w o.dst K:=hk.next fun v w h=>⟨h.1,fun _=>h.2⟩
   have hCM:=And.intro hC hM
   have x13:A.eval (.tmp 13) = .pointer (some ⟨BR,0,none⟩):=filled_base hA (by kernel_rfl) b13
   have hw:Region.wanted o (yielded (regOf Tryz.f10 23) A.tmps)=true:=wanted_free hg
   refine step_pure (v:=.pointer (some ⟨BR,1,none⟩)) hk hCM hw ?_ rfl
   unfold execOp
   simp only [ho1]
   generalize A.eval=ρ at x13 ⊢
   simp [go_sem,x13]
 | 6,_ =>
   have ho1:=opIs ho (p:=.load 3 (.tmp 73)) (by kernel_rfl)
   have hg:=guardIs ho (p:=none) (by kernel_rfl)
   intro e A w hA hC hp hup K hk
   have hM:=hC.2 (hup 14 (by kernel_rfl))
   replace hC:=hC.1
   replace hk:Next (regOf Tryz.f10 23) (fun w=>(fun w=>w1.grownBy w (Value.slice va acc.length vc).ownBlock) w∧(fun w=>MakingB base bx acc va vc cells w) w) (npdT base bx BR rt rk rd va vc acc cells w1) npdD 6 e A w o.dst K:=hk.next fun v w h=>⟨h.1,fun _=>h.2⟩
   have hCM:=And.intro hC hM
   have x73:A.eval (.tmp 73) = .pointer (some ⟨BR,1,none⟩):=op_tmp hA hp 73 5 (by kernel_rfl) (by kernel_rfl) (by kernel_rfl) (hz _ rfl)
   have hw:Region.wanted o (yielded (regOf Tryz.f10 23) A.tmps)=true:=wanted_free hg
   have e1:=(Lib.cell_of_heap ((hC.block BR hBRl hBRn).trans hBRo) 1).trans (show _=some (Value.int .i64 rk) from rfl)
   refine step_pure (v:=.int .i64 rk) hk hCM hw ?_ rfl
   unfold execOp
   simp only [ho1]
   generalize A.eval=ρ at x73 ⊢
   simp [go_sem,x73,e1]
 | 7,_ =>
   have ho1:=opIs ho (p:=.call { callee:=(.value (.func 35)),args:=#[(.tmp 74)],argTypes:=#[3] }) (by kernel_rfl)
   have hg:=guardIs ho (p:=none) (by kernel_rfl)
   intro e A w hA hC hp hup K hk
   have hM:=hC.2 (hup 14 (by kernel_rfl))
   replace hC:=hC.1
   replace hk:Next (regOf Tryz.f10 23) (fun w=>(fun w=>w1.grownBy w (Value.slice va acc.length vc).ownBlock) w∧(fun w=>MakingB base bx acc va vc cells w) w) (npdT base bx BR rt rk rd va vc acc cells w1) npdD 7 e A w o.dst K:=hk.next fun v w h=>⟨h.1,fun _=>h.2⟩
   have hCM:=And.intro hC hM
   have x74:A.eval (.tmp 74) = .int .i64 rk:=op_tmp hA hp 74 6 (by kernel_rfl) (by kernel_rfl) (by kernel_rfl) (hz _ rfl)
   have hw:Region.wanted o (yielded (regOf Tryz.f10 23) A.tmps)=true:=wanted_free hg
   refine step_call (f:=35) (args:=#[.int .i64 rk]) hk hw ?_ ?_
   ·unfold execOp
    simp only [ho1]
    have xf:∀ f,A.eval (.func f) = .func (.func f) #[] #[]:=fun _=>rfl
    generalize A.eval=ρ at x74 xf ⊢
    simp [go_sem,xf,x74]
   ·refine (nnum_any rk w).mono ?_
    rintro en w' ⟨rfl,hb'⟩
    exact⟨_,rfl,rfl,⟨grown_trans hC (grown_of_below hb' _),hM.under hb'⟩,fun j u _ _ _ _ h=>npd_keep base bx BR rt rk rd va vc acc cells w1 j u w _ hb' h⟩
 | 8,_ =>
   have ho1:=opIs ho (p:=.fieldAddr 67 (.tmp 13) 2) (by kernel_rfl)
   have hg:=guardIs ho (p:=none) (by kernel_rfl)
   intro e A w hA hC hp hup K hk
   have hM:=hC.2 (hup 14 (by kernel_rfl))
   replace hC:=hC.1
   replace hk:Next (regOf Tryz.f10 23) (fun w=>(fun w=>w1.grownBy w (Value.slice va acc.length vc).ownBlock) w∧(fun w=>MakingB base bx acc va vc cells w) w) (npdT base bx BR rt rk rd va vc acc cells w1) npdD 8 e A w o.dst K:=hk.next fun v w h=>⟨h.1,fun _=>h.2⟩
   have hCM:=And.intro hC hM
   have x13:A.eval (.tmp 13) = .pointer (some ⟨BR,0,none⟩):=filled_base hA (by kernel_rfl) b13
   have hw:Region.wanted o (yielded (regOf Tryz.f10 23) A.tmps)=true:=wanted_free hg
   refine step_pure (v:=.pointer (some ⟨BR,2,none⟩)) hk hCM hw ?_ rfl
   unfold execOp
   simp only [ho1]
   generalize A.eval=ρ at x13 ⊢
   simp [go_sem,x13]
 | 9,_ =>
   have ho1:=opIs ho (p:=.load 9 (.tmp 76)) (by kernel_rfl)
   have hg:=guardIs ho (p:=none) (by kernel_rfl)
   intro e A w hA hC hp hup K hk
   have hM:=hC.2 (hup 14 (by kernel_rfl))
   replace hC:=hC.1
   replace hk:Next (regOf Tryz.f10 23) (fun w=>(fun w=>w1.grownBy w (Value.slice va acc.length vc).ownBlock) w∧(fun w=>MakingB base bx acc va vc cells w) w) (npdT base bx BR rt rk rd va vc acc cells w1) npdD 9 e A w o.dst K:=hk.next fun v w h=>⟨h.1,fun _=>h.2⟩
   have hCM:=And.intro hC hM
   have x76:A.eval (.tmp 76) = .pointer (some ⟨BR,2,none⟩):=op_tmp hA hp 76 8 (by kernel_rfl) (by kernel_rfl) (by kernel_rfl) (hz _ rfl)
   have hw:Region.wanted o (yielded (regOf Tryz.f10 23) A.tmps)=true:=wanted_free hg
   have e1:=(Lib.cell_of_heap ((hC.block BR hBRl hBRn).trans hBRo) 2).trans (show _=some (Value.string rd) from rfl)
   refine step_pure (v:=.string rd) hk hCM hw ?_ rfl
   unfold execOp
   simp only [ho1]
   generalize A.eval=ρ at x76 ⊢
   simp [go_sem,x76,e1]
 | 10,_ =>
   have ho1:=opIs ho (p:=.build 70 #[(0,(.const (.int .i64 2))),(2,(.tmp 77))]) (by kernel_rfl)
   have hg:=guardIs ho (p:=none) (by kernel_rfl)
   intro e A w hA hC hp hup K hk
   have hM:=hC.2 (hup 14 (by kernel_rfl))
   replace hC:=hC.1
   replace hk:Next (regOf Tryz.f10 23) (fun w=>(fun w=>w1.grownBy w (Value.slice va acc.length vc).ownBlock) w∧(fun w=>MakingB base bx acc va vc cells w) w) (npdT base bx BR rt rk rd va vc acc cells w1) npdD 10 e A w o.dst K:=hk.next fun v w h=>⟨h.1,fun _=>h.2⟩
   have hCM:=And.intro hC hM
   have x77:A.eval (.tmp 77) = .string rd:=op_tmp hA hp 77 9 (by kernel_rfl) (by kernel_rfl) (by kernel_rfl) (hz _ rfl)
   have hw:Region.wanted o (yielded (regOf Tryz.f10 23) A.tmps)=true:=wanted_free hg
   refine step_pure (v:=.agg #[.int .i64 2,.int .i64 0,.string rd,.slice none 0 0]) hk hCM hw ?_ rfl
   unfold execOp
   simp only [ho1]
   have xc:∀ v,A.eval (.const v)=v:=fun _=>rfl
   generalize A.eval=ρ at x77 xc ⊢
   simp [go_sem,x77,xc]
 | 11,_ =>
   have ho1:=opIs ho (p:=.buildSlice 68 3 #[(0,(.tmp 72)),(1,(.tmp 75)),(2,(.tmp 78))]) (by kernel_rfl)
   have hg:=guardIs ho (p:=none) (by kernel_rfl)
   intro e A w hA hC hp hup K hk
   have hM:=hC.2 (hup 14 (by kernel_rfl))
   replace hC:=hC.1
   replace hk:Next (regOf Tryz.f10 23) (fun w=>(fun w=>w1.grownBy w (Value.slice va acc.length vc).ownBlock) w∧(fun w=>MakingB base bx acc va vc cells w) w) (npdT base bx BR rt rk rd va vc acc cells w1) npdD 11 e A w o.dst K:=hk.next fun v w h=>⟨h.1,fun _=>h.2⟩
   have hCM:=And.intro hC hM
   have x72:A.eval (.tmp 72) = .agg #[.int .i64 1,.int .i64 rt,.string ⟨#[]⟩,.slice none 0 0]:=op_tmp hA hp 72 4 (by kernel_rfl) (by kernel_rfl) (by kernel_rfl) (hz _ rfl)
   have x75:A.eval (.tmp 75) = .agg #[.int .i64 1,.int .i64 rk,.string ⟨#[]⟩,.slice none 0 0]:=op_tmp hA hp 75 7 (by kernel_rfl) (by kernel_rfl) (by kernel_rfl) (hz _ rfl)
   have x78:A.eval (.tmp 78) = .agg #[.int .i64 2,.int .i64 0,.string rd,.slice none 0 0]:=op_tmp hA hp 78 10 (by kernel_rfl) (by kernel_rfl) (by kernel_rfl) (hz _ rfl)
   have hw:Region.wanted o (yielded (regOf Tryz.f10 23) A.tmps)=true:=wanted_free hg
   refine step_value (v:=.slice (some ⟨w.heap.size,0,none⟩) 3 3) (w':=w.alloc (.cells #[.int .i64 1,.int .i64 rt,.string ⟨#[]⟩,.slice none 0 0,.int .i64 1,.int .i64 rk,.string ⟨#[]⟩,.slice none 0 0,.int .i64 2,.int .i64 0,.string rd,.slice none 0 0] 70)) hk hw ?_ ?_ ?_ ?_
   ·unfold execOp
    simp only [ho1]
    generalize A.eval=ρ at x72 x75 x78 ⊢
    simp [go_sem,x72,x75,x78]
   ·exact⟨w.heap.size,rfl,hC.size,heap_alloc_new w _⟩
   ·exact⟨grown_trans hC (World.grownBy_alloc w _ _),hM.under ((Below.refl _ w).alloc (Nat.le_refl _) _)⟩
   ·intro j u _ _ _ _ h
    exact npd_keep base bx BR rt rk rd va vc acc cells w1 j u w _ ((Below.refl _ w).alloc (Nat.le_refl _) _) h
 | 12,_ =>
   have ho1:=opIs ho (p:=.call { callee:=(.value (.func 33)),args:=#[(.tmp 79)],argTypes:=#[68] }) (by kernel_rfl)
   have hg:=guardIs ho (p:=none) (by kernel_rfl)
   intro e A w hA hC hp hup K hk
   have hM:=hC.2 (hup 14 (by kernel_rfl))
   replace hC:=hC.1
   replace hk:Next (regOf Tryz.f10 23) (fun w=>(fun w=>w1.grownBy w (Value.slice va acc.length vc).ownBlock) w∧(fun w=>MakingB base bx acc va vc cells w) w) (npdT base bx BR rt rk rd va vc acc cells w1) npdD 12 e A w o.dst K:=hk.next fun v w h=>⟨h.1,fun _=>h.2⟩
   have hCM:=And.intro hC hM
   have x79:=op_tmp hA hp 79 11 (by kernel_rfl) (by kernel_rfl) (by kernel_rfl) (hz _ rfl)
   have hw:Region.wanted o (yielded (regOf Tryz.f10 23) A.tmps)=true:=wanted_free hg
   obtain⟨b,x79,h1,h2⟩:=x79
   refine step_call (f:=33) (args:=#[.slice (some ⟨b,0,none⟩) 3 3]) hk hw ?_ ?_
   ·unfold execOp
    simp only [ho1]
    have xf:∀ f,A.eval (.func f) = .func (.func f) #[] #[]:=fun _=>rfl
    generalize A.eval=ρ at x79 xf ⊢
    simp [go_sem,xf,x79]
   ·refine (nlist_any (some ⟨b,0,none⟩) 3 3 w).mono ?_
    rintro en w' ⟨rfl,hb'⟩
    exact⟨_,rfl,⟨b,rfl,h1,(hb'.block _ (lt_of_block h2)).trans h2⟩,⟨grown_trans hC (grown_of_below hb' _),hM.under hb'⟩,fun j u _ _ _ _ h=>npd_keep base bx BR rt rk rd va vc acc cells w1 j u w _ hb' h⟩
 | 13,_ =>
   have ho1:=opIs ho (p:=.buildSlice 68 1 #[(0,(.tmp 80))]) (by kernel_rfl)
   have hg:=guardIs ho (p:=none) (by kernel_rfl)
   intro e A w hA hC hp hup K hk
   have hM:=hC.2 (hup 14 (by kernel_rfl))
   replace hC:=hC.1
   replace hk:Next (regOf Tryz.f10 23) (fun w=>(fun w=>w1.grownBy w (Value.slice va acc.length vc).ownBlock) w∧(fun w=>MakingB base bx acc va vc cells w) w) (npdT base bx BR rt rk rd va vc acc cells w1) npdD 13 e A w o.dst K:=hk.next fun v w h=>⟨h.1,fun _=>h.2⟩
   have hCM:=And.intro hC hM
   have x80:=op_tmp hA hp 80 12 (by kernel_rfl) (by kernel_rfl) (by kernel_rfl) (hz _ rfl)
   have hw:Region.wanted o (yielded (regOf Tryz.f10 23) A.tmps)=true:=wanted_free hg
   obtain⟨b,x80,h1,h2⟩:=x80
   refine step_value (v:=.slice (some ⟨w.heap.size,0,none⟩) 1 1) (w':=w.alloc (.cells #[.int .i64 3,.int .i64 0,.string ⟨#[]⟩,.slice (some ⟨b,0,none⟩) 3 3] 70)) hk hw ?_ ?_ ?_ ?_
   ·unfold execOp
    simp only [ho1]
    generalize A.eval=ρ at x80 ⊢
    simp [go_sem,x80]
   ·exact⟨b,w.heap.size,rfl,⟨h1,(heap_alloc_old w _ (lt_of_block h2)).trans h2⟩,heap_alloc_new w _⟩
   ·exact⟨grown_trans hC (World.grownBy_alloc w _ _),hM.under ((Below.refl _ w).alloc (Nat.le_refl _) _)⟩
   ·intro j u _ _ _ _ h
    exact npd_keep base bx BR rt rk rd va vc acc cells w1 j u w _ ((Below.refl _ w).alloc (Nat.le_refl _) _) h
 | 14,_ =>
   have ho1:=opIs ho (p:=.call { callee:=(.builtin .append),args:=#[(.tmp 69),(.tmp 81)],argTypes:=#[68,68] }) (by kernel_rfl)
   have hg:=guardIs ho (p:=none) (by kernel_rfl)
   intro e A w hA hC hp hup K hk
   have hM:=hC.2 (hup 14 (by kernel_rfl))
   have x69:A.eval (.tmp 69) = .slice va acc.length vc:=op_tmp hA hp 69 1 (by kernel_rfl) (by kernel_rfl) (by kernel_rfl) (hz _ rfl)
   have x81:=op_tmp hA hp 81 13 (by kernel_rfl) (by kernel_rfl) (by kernel_rfl) (hz _ rfl)
   have hw:Region.wanted o (yielded (regOf Tryz.f10 23) A.tmps)=true:=wanted_free hg
   obtain⟨b,c,x81,⟨h1,h2⟩,h3⟩:=x81
   have hat:V.At w (fun p=>w1.heap.size≤p∧p<w.heap.size) (recV ⟨rt,rk,rd⟩) [.int .i64 3,.int .i64 0,.string ⟨#[]⟩,.slice (some ⟨b,0,none⟩) 3 3]:=by
    simp only [recV,listV,numV,textV,V.At,VAll]
    refine⟨some ⟨b,0,none⟩,3,rfl,Nat.le_refl _,(fun e=>by cases e),⟨b,0,[.int .i64 1,.int .i64 rt,.string ⟨#[]⟩,.slice none 0 0],rfl,⟨h1,lt_of_block h2⟩,⟨none,0,rfl,Nat.le_refl _,fun _=>rfl,trivial⟩,fun j u hj=>?_⟩,⟨b,0,[.int .i64 1,.int .i64 rk,.string ⟨#[]⟩,.slice none 0 0],rfl,⟨h1,lt_of_block h2⟩,⟨none,0,rfl,Nat.le_refl _,fun _=>rfl,trivial⟩,fun j u hj=>?_⟩,⟨b,0,[.int .i64 2,.int .i64 0,.string rd,.slice none 0 0],rfl,⟨h1,lt_of_block h2⟩,⟨none,0,rfl,Nat.le_refl _,fun _=>rfl,trivial⟩,fun j u hj=>?_⟩,trivial⟩
    ·match j,hj with
     | 0,hj=>exact (Lib.cell_of_heap h2 _).trans hj
     | 1,hj=>exact (Lib.cell_of_heap h2 _).trans hj
     | 2,hj=>exact (Lib.cell_of_heap h2 _).trans hj
     | 3,hj=>exact (Lib.cell_of_heap h2 _).trans hj
    ·match j,hj with
     | 0,hj=>exact (Lib.cell_of_heap h2 _).trans hj
     | 1,hj=>exact (Lib.cell_of_heap h2 _).trans hj
     | 2,hj=>exact (Lib.cell_of_heap h2 _).trans hj
     | 3,hj=>exact (Lib.cell_of_heap h2 _).trans hj
    ·match j,hj with
     | 0,hj=>exact (Lib.cell_of_heap h2 _).trans hj
     | 1,hj=>exact (Lib.cell_of_heap h2 _).trans hj
     | 2,hj=>exact (Lib.cell_of_heap h2 _).trans hj
     | 3,hj=>exact (Lib.cell_of_heap h2 _).trans hj
   have hrw:RowOf w (fun p=>w1.heap.size≤p∧p<w.heap.size) [recV ⟨rt,rk,rd⟩] [.int .i64 3,.int .i64 0,.string ⟨#[]⟩,.slice (some ⟨b,0,none⟩) 3 3]:=by have:=RowOf.snoc RowOf.nil hat; exact this
   obtain⟨a3,c3,cells3,w',hr,hg,hmade⟩:=makingB_append hM [recV ⟨rt,rk,rd⟩] _ 1 c w1.heap.size _ 68 o.type hV h3 rfl hrw hbw hvl (by decide) (by decide) hn
   rw [if_pos hw]
   unfold Oper.wp
   rw [show (execOp A.eval o).run Tryz.prog w = .ok (.value (.slice a3 (acc.length+[recV ⟨rt,rk,rd⟩].length) c3)) w' by
    unfold execOp
    simp only [ho1,resolve,invoke,builtin,Sem.run_bind,Sem.run_pure,Result.andThen_ok,List.map_toArray,List.map_cons,List.map_nil,x69,x81,hr]]
   have hown:∀ p,w1.heap.size≤p→some p≠(Value.slice va acc.length vc).ownBlock:=fun p hp e=>by have:=hvl p e.symm; omega
   refine hk _ _ ⟨a3,c3,cells3,rfl,hmade⟩ ⟨grown_trans hC.1 hg,fun h=>by rw [Vals.set_same] at h; cases h⟩ ?_
   intro j u hj hji _ hd h
   match j,h with
   | 0,h=>exact h
   | 1,h=>exact h
   | 2,h=>exact h
   | 3,h=>exact h
   | 4,h=>exact h
   | 5,h=>exact h
   | 6,h=>exact h
   | 7,h=>exact h
   | 8,h=>exact h
   | 9,h=>exact h
   | 10,h=>exact h
   | 11,h=>obtain⟨b,rfl,h1,h2⟩:=h; exact⟨b,rfl,h1,(hg.block _ (lt_of_block h2) (hown _ h1)).trans h2⟩
   | 12,h=>obtain⟨b,rfl,h1,h2⟩:=h; exact⟨b,rfl,h1,(hg.block _ (lt_of_block h2) (hown _ h1)).trans h2⟩
   | 13,h=>exact absurd rfl (hd 14 (by rw [hsz]; decide) rfl).1
   | 14,h=>exact absurd rfl hji
   | 15,h=>exact h
   | _+16,h=>trivial
 | 15,_ =>
   have ho1:=opIs ho (p:=.fieldAddr 70 (.tmp 9) 3) (by kernel_rfl)
   have hg:=guardIs ho (p:=none) (by kernel_rfl)
   intro e A w hA hC hp hup K hk
   replace hk:Next (regOf Tryz.f10 23) (fun w=>(fun w=>w1.grownBy w (Value.slice va acc.length vc).ownBlock) w∧(e 14=none→(fun w=>MakingB base bx acc va vc cells w) w)) (npdT base bx BR rt rk rd va vc acc cells w1) npdD 15 e A w o.dst K:=hk.next fun v w h=>⟨h.1,fun he=>h.2 (by rwa [Vals.set_other e v (by decide)] at he)⟩
   have hCM:=hC
   have x9:A.eval (.tmp 9) = .pointer (some ⟨bx,0,none⟩):=filled_base hA (by kernel_rfl) b9
   have hw:Region.wanted o (yielded (regOf Tryz.f10 23) A.tmps)=true:=wanted_free hg
   refine step_pure (v:=.pointer (some ⟨bx,3,none⟩)) hk hCM hw ?_ rfl
   unfold execOp
   simp only [ho1]
   generalize A.eval=ρ at x9 ⊢
   simp [go_sem,x9]
 | _+16,h=>exact absurd h (by omega)
end Go.Proofs.YtlpgbmaoenncjaaGreatDoor

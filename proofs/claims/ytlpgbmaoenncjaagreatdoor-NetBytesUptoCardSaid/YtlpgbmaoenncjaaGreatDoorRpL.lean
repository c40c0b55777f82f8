/-
  The regions of the reference's Put of messages. (Written by wip/mkrpm.py.)
-/
import Derived.Test.YtlpgbmaoenncjaaGreatDoorNmB
import Derived.Test.YtlpgbmaoenncjaaGreatDoorRpPut
namespace Go.Proofs.YtlpgbmaoenncjaaGreatDoor
open Go.RowKit
set_option linter.unusedVariables false
theorem listV_new {w:World}{S:Nat→Prop}{l:List V}{cells:List Value}{c n:Nat}(hS:S c) (hrow:RowOf w S l cells) (hb:w.heap[c]? = some (.cells cells.toArray 70 (0,0))) (hn:n=l.length):V.At w S (listV l) [.int .i64 3,.int .i64 0,.string ⟨#[]⟩,.slice (some ⟨c,0,none⟩) n n]:=by
 subst hn
 simp only [listV,V.At]
 exact⟨_,_,rfl,Nat.le_refl _,fun h=>(by cases h),hrow.all hS (fun j u hj=>(Lib.cell_of_heap hb j).trans (by simpa using hj))⟩
theorem rnum21_any (n:Int) (w:World):Calls Tryz.prog 38 #[.int .i64 n] w (fun e w'=>e = .returned (.agg #[.int .i64 1,.int .i64 n,.string ⟨#[]⟩,.slice none 0 0])∧Below w.heap.size w w'):=by
 go_enter Tryz.func38,Tryz.ntmps38
 go_wp2_with fail
 refine bodyPost_ret (v:=.agg #[.int .i64 1,.int .i64 n,.string ⟨#[]⟩,.slice none 0 0]) ?_ rfl ?_
 ·exact results_cell_row (p:=2) rfl _ _ w.heap.size 70 _ (0,0) _ rfl (heap_alloc_new w _) Tryz.underlying70 rfl (by kernel_rfl)
 ·exact⟨rfl,(Below.refl _ w).alloc (Nat.le_refl _) _⟩
def rpnT (base bx:Nat) (x:Int) (va:Option Addr) (vc:Nat) (acc:List V) (cells:List Value) (w1:World):Nat→Value→World→Prop
 | 0,v,w=>v = .pointer (some ⟨bx,3,none⟩)
 | 1,v,w=>v = .slice va acc.length vc
 | 2,v,w=>v = .int .i64 x
 | 3,v,w=>v = .agg #[.int .i64 1,.int .i64 x,.string ⟨#[]⟩,.slice none 0 0]
 | 4,v,w=>∃ c,v = .slice (some ⟨c,0,none⟩) 1 1∧w.heap[c]? = some (.cells #[.int .i64 1,.int .i64 x,.string ⟨#[]⟩,.slice none 0 0] 70 (0,0))
 | 5,v,w=>∃ a3 c3 cells3,v = .slice a3 (acc.length+[numV x].length) c3∧MadeB base bx acc [numV x] va vc a3 c3 cells3 w
 | 6,v,w=>v = .pointer (some ⟨bx,3,none⟩)
 | _,_,_=>True
def rpnD:Nat→List Nat
 | 5=>[4]
 | _=>[]
theorem rpn_keep (base bx:Nat) (x:Int) (va:Option Addr) (vc:Nat) (acc:List V) (cells:List Value) (w1:World):∀ (j:Nat) (u:Value) (w w':World),Below w.heap.size w w'→(rpnT base bx x va vc acc cells w1) j u w→(rpnT base bx x va vc acc cells w1) j u w'
 | 4,u,w,w',hb,h=>by obtain⟨c,rfl,h3⟩:=h; exact⟨c,rfl,(hb.block _ (lt_of_block h3)).trans h3⟩
 | 5,u,w,w',hb,h=>by obtain⟨a3,c3,cells3,rfl,h1⟩:=h; exact⟨a3,c3,cells3,rfl,h1.under hb⟩
 | 0,u,w,w',hb,h=>h
 | 1,u,w,w',hb,h=>h
 | 2,u,w,w',hb,h=>h
 | 3,u,w,w',hb,h=>h
 | 6,u,w,w',hb,h=>h
 | _+7,u,w,w',hb,h=>trivial
set_option maxHeartbeats 4000000 in
theorem rpn_steps (base bx:Nat) (x:Int) (va:Option Addr) (vc:Nat) (acc:List V) (cells:List Value) (w1:World) (hbw:base≤w1.heap.size) (hvl:∀ k,(Value.slice va acc.length vc).ownBlock=some k→k<w1.heap.size) (hn:acc.length≤1000000) (hV:Tryz.prog.underlying 68 = some (.slice 70)) {a:Act}(hs:a.tmps.size=90) (b5:a.eval (.tmp 5) = .pointer (some ⟨bx,0,none⟩)) (b7:a.eval (.tmp 7) = .int .i64 x):∀ i o,i<7→(regOf Tryz.f11 10)[i]? = some o→StepOkE Tryz.prog (regOf Tryz.f11 10) a (fun e w=>(fun w=>w1.grownBy w (Value.slice va acc.length vc).ownBlock) w∧(e 5=none→(fun w=>MakingB base bx acc va vc cells w) w)) (rpnT base bx x va vc acc cells w1) rpnD i o:=by
 have hz:∀ t,Nat.blt t 90=true→Nat.blt t a.tmps.size=true:=fun t h=>by rw [hs]; exact h
 have hsz:(regOf Tryz.f11 10).size=8:=by kernel_rfl
 intro i o hii ho
 match i,hii with
 | 0,_ =>
   have ho1:=opIs ho (p:=.fieldAddr 70 (.tmp 5) 3) (by kernel_rfl)
   have hg:=guardIs ho (p:=none) (by kernel_rfl)
   intro e A w hA hC hp hup K hk
   have hM:=hC.2 (hup 5 (by kernel_rfl))
   replace hC:=hC.1
   replace hk:Next (regOf Tryz.f11 10) (fun w=>(fun w=>w1.grownBy w (Value.slice va acc.length vc).ownBlock) w∧(fun w=>MakingB base bx acc va vc cells w) w) (rpnT base bx x va vc acc cells w1) rpnD 0 e A w o.dst K:=hk.next fun v w h=>⟨h.1,fun _=>h.2⟩
   have hCM:=And.intro hC hM
   have x5:A.eval (.tmp 5) = .pointer (some ⟨bx,0,none⟩):=filled_base hA (by kernel_rfl) b5
   have hw:Region.wanted o (yielded (regOf Tryz.f11 10) A.tmps)=true:=wanted_free hg
   refine step_pure (v:=.pointer (some ⟨bx,3,none⟩)) hk hCM hw ?_ rfl
   unfold execOp
   simp only [ho1]
   generalize A.eval=ρ at x5 ⊢
   simp [go_sem,x5]
 | 1,_ =>
   have ho1:=opIs ho (p:=.load 68 (.tmp 24)) (by kernel_rfl)
   have hg:=guardIs ho (p:=none) (by kernel_rfl)
   intro e A w hA hC hp hup K hk
   have hM:=hC.2 (hup 5 (by kernel_rfl))
   replace hC:=hC.1
   replace hk:Next (regOf Tryz.f11 10) (fun w=>(fun w=>w1.grownBy w (Value.slice va acc.length vc).ownBlock) w∧(fun w=>MakingB base bx acc va vc cells w) w) (rpnT base bx x va vc acc cells w1) rpnD 1 e A w o.dst K:=hk.next fun v w h=>⟨h.1,fun _=>h.2⟩
   have hCM:=And.intro hC hM
   have x24:A.eval (.tmp 24) = .pointer (some ⟨bx,3,none⟩):=op_tmp hA hp 24 0 (by kernel_rfl) (by kernel_rfl) (by kernel_rfl) (hz _ rfl)
   have hw:Region.wanted o (yielded (regOf Tryz.f11 10) A.tmps)=true:=wanted_free hg
   have e1:=hM.box.c3
   refine step_pure (v:=.slice va acc.length vc) hk hCM hw ?_ rfl
   unfold execOp
   simp only [ho1]
   generalize A.eval=ρ at x24 ⊢
   simp [go_sem,x24,e1]
 | 2,_ =>
   have ho1:=opIs ho (p:=.move (.tmp 7)) (by kernel_rfl)
   have hg:=guardIs ho (p:=none) (by kernel_rfl)
   intro e A w hA hC hp hup K hk
   have hM:=hC.2 (hup 5 (by kernel_rfl))
   replace hC:=hC.1
   replace hk:Next (regOf Tryz.f11 10) (fun w=>(fun w=>w1.grownBy w (Value.slice va acc.length vc).ownBlock) w∧(fun w=>MakingB base bx acc va vc cells w) w) (rpnT base bx x va vc acc cells w1) rpnD 2 e A w o.dst K:=hk.next fun v w h=>⟨h.1,fun _=>h.2⟩
   have hCM:=And.intro hC hM
   have x7:A.eval (.tmp 7) = .int .i64 x:=filled_base hA (by kernel_rfl) b7
   have hw:Region.wanted o (yielded (regOf Tryz.f11 10) A.tmps)=true:=wanted_free hg
   exact step_pure hk hCM hw (run_move ho1 x7 w) rfl
 | 3,_ =>
   have ho1:=opIs ho (p:=.call { callee:=(.value (.func 38)),args:=#[(.tmp 26)],argTypes:=#[3] }) (by kernel_rfl)
   have hg:=guardIs ho (p:=none) (by kernel_rfl)
   intro e A w hA hC hp hup K hk
   have hM:=hC.2 (hup 5 (by kernel_rfl))
   replace hC:=hC.1
   replace hk:Next (regOf Tryz.f11 10) (fun w=>(fun w=>w1.grownBy w (Value.slice va acc.length vc).ownBlock) w∧(fun w=>MakingB base bx acc va vc cells w) w) (rpnT base bx x va vc acc cells w1) rpnD 3 e A w o.dst K:=hk.next fun v w h=>⟨h.1,fun _=>h.2⟩
   have hCM:=And.intro hC hM
   have x26:A.eval (.tmp 26) = .int .i64 x:=op_tmp hA hp 26 2 (by kernel_rfl) (by kernel_rfl) (by kernel_rfl) (hz _ rfl)
   have hw:Region.wanted o (yielded (regOf Tryz.f11 10) A.tmps)=true:=wanted_free hg
   refine step_call (f:=38) (args:=#[.int .i64 x]) hk hw ?_ ?_
   ·unfold execOp
    simp only [ho1]
    have xf:∀ f,A.eval (.func f) = .func (.func f) #[] #[]:=fun _=>rfl
    generalize A.eval=ρ at x26 xf ⊢
    simp [go_sem,xf,x26]
   ·refine (rnum21_any x w).mono ?_
    rintro en w' ⟨rfl,hb'⟩
    exact⟨_,rfl,rfl,⟨grown_trans hC (grown_of_below hb' _),hM.under hb'⟩,fun j u _ _ _ _ h=>rpn_keep base bx x va vc acc cells w1 j u w _ hb' h⟩
 | 4,_ =>
   have ho1:=opIs ho (p:=.buildSlice 68 1 #[(0,(.tmp 27))]) (by kernel_rfl)
   have hg:=guardIs ho (p:=none) (by kernel_rfl)
   intro e A w hA hC hp hup K hk
   have hM:=hC.2 (hup 5 (by kernel_rfl))
   replace hC:=hC.1
   replace hk:Next (regOf Tryz.f11 10) (fun w=>(fun w=>w1.grownBy w (Value.slice va acc.length vc).ownBlock) w∧(fun w=>MakingB base bx acc va vc cells w) w) (rpnT base bx x va vc acc cells w1) rpnD 4 e A w o.dst K:=hk.next fun v w h=>⟨h.1,fun _=>h.2⟩
   have hCM:=And.intro hC hM
   have x27:A.eval (.tmp 27) = .agg #[.int .i64 1,.int .i64 x,.string ⟨#[]⟩,.slice none 0 0]:=op_tmp hA hp 27 3 (by kernel_rfl) (by kernel_rfl) (by kernel_rfl) (hz _ rfl)
   have hw:Region.wanted o (yielded (regOf Tryz.f11 10) A.tmps)=true:=wanted_free hg
   refine step_value (v:=.slice (some ⟨w.heap.size,0,none⟩) 1 1) (w':=w.alloc (.cells #[.int .i64 1,.int .i64 x,.string ⟨#[]⟩,.slice none 0 0] 70)) hk hw ?_ ?_ ?_ ?_
   ·unfold execOp
    simp only [ho1]
    generalize A.eval=ρ at x27 ⊢
    simp [go_sem,x27]
   ·exact⟨w.heap.size,rfl,heap_alloc_new w _⟩
   ·exact⟨grown_trans hC (World.grownBy_alloc w _ _),hM.under ((Below.refl _ w).alloc (Nat.le_refl _) _)⟩
   ·intro j u _ _ _ _ h
    exact rpn_keep base bx x va vc acc cells w1 j u w _ ((Below.refl _ w).alloc (Nat.le_refl _) _) h
 | 5,_ =>
   have ho1:=opIs ho (p:=.call { callee:=(.builtin .append),args:=#[(.tmp 25),(.tmp 28)],argTypes:=#[68,68] }) (by kernel_rfl)
   have hg:=guardIs ho (p:=none) (by kernel_rfl)
   intro e A w hA hC hp hup K hk
   have hM:=hC.2 (hup 5 (by kernel_rfl))
   have x25:A.eval (.tmp 25) = .slice va acc.length vc:=op_tmp hA hp 25 1 (by kernel_rfl) (by kernel_rfl) (by kernel_rfl) (hz _ rfl)
   have x28:=op_tmp hA hp 28 4 (by kernel_rfl) (by kernel_rfl) (by kernel_rfl) (hz _ rfl)
   have hw:Region.wanted o (yielded (regOf Tryz.f11 10) A.tmps)=true:=wanted_free hg
   obtain⟨c,x28,h3⟩:=x28
   have hat:V.At w (fun p=>w1.heap.size≤p∧p<w.heap.size) (numV x) [.int .i64 1,.int .i64 x,.string ⟨#[]⟩,.slice none 0 0]:=by
    simp only [numV,V.At,VAll]
    exact⟨none,0,rfl,Nat.le_refl _,fun _=>rfl,trivial⟩
   have hrw:RowOf w (fun p=>w1.heap.size≤p∧p<w.heap.size) [numV x] [.int .i64 1,.int .i64 x,.string ⟨#[]⟩,.slice none 0 0]:=by have:=RowOf.snoc RowOf.nil hat; exact this
   obtain⟨a3,c3,cells3,w',hr,hg,hmade⟩:=makingB_append hM [numV x] _ 1 c w1.heap.size _ 68 o.type hV h3 rfl hrw hbw hvl (by decide) (by decide) hn
   rw [if_pos hw]
   unfold Oper.wp
   rw [show (execOp A.eval o).run Tryz.prog w = .ok (.value (.slice a3 (acc.length+[numV x].length) c3)) w' by
    unfold execOp
    simp only [ho1,resolve,invoke,builtin,Sem.run_bind,Sem.run_pure,Result.andThen_ok,List.map_toArray,List.map_cons,List.map_nil,x25,x28,hr]]
   refine hk _ _ ⟨a3,c3,cells3,rfl,hmade⟩ ⟨grown_trans hC.1 hg,fun h=>by rw [Vals.set_same] at h; cases h⟩ ?_
   intro j u hj hji _ hd h
   match j,h with
   | 0,h=>exact h
   | 1,h=>exact h
   | 2,h=>exact h
   | 3,h=>exact h
   | 4,h=>exact absurd rfl (hd 5 (by rw [hsz]; decide) rfl).1
   | 5,h=>exact absurd rfl hji
   | 6,h=>exact h
   | _+7,h=>trivial
 | 6,_ =>
   have ho1:=opIs ho (p:=.fieldAddr 70 (.tmp 5) 3) (by kernel_rfl)
   have hg:=guardIs ho (p:=none) (by kernel_rfl)
   intro e A w hA hC hp hup K hk
   replace hk:Next (regOf Tryz.f11 10) (fun w=>(fun w=>w1.grownBy w (Value.slice va acc.length vc).ownBlock) w∧(e 5=none→(fun w=>MakingB base bx acc va vc cells w) w)) (rpnT base bx x va vc acc cells w1) rpnD 6 e A w o.dst K:=hk.next fun v w h=>⟨h.1,fun he=>h.2 (by rwa [Vals.set_other e v (by decide)] at he)⟩
   have hCM:=hC
   have x5:A.eval (.tmp 5) = .pointer (some ⟨bx,0,none⟩):=filled_base hA (by kernel_rfl) b5
   have hw:Region.wanted o (yielded (regOf Tryz.f11 10) A.tmps)=true:=wanted_free hg
   refine step_pure (v:=.pointer (some ⟨bx,3,none⟩)) hk hCM hw ?_ rfl
   unfold execOp
   simp only [ho1]
   generalize A.eval=ρ at x5 ⊢
   simp [go_sem,x5]
 | _+7,h=>exact absurd h (by omega)
def rprT (base bx BR:Nat) (rt rk:Int) (rd:ByteArray) (va:Option Addr) (vc:Nat) (acc:List V) (cells:List Value) (w1:World):Nat→Value→World→Prop
 | 0,v,w=>v = .pointer (some ⟨bx,3,none⟩)
 | 1,v,w=>v = .slice va acc.length vc
 | 2,v,w=>v = .pointer (some ⟨BR,0,none⟩)
 | 3,v,w=>v = .int .i64 rt
 | 4,v,w=>v = .agg #[.int .i64 1,.int .i64 rt,.string ⟨#[]⟩,.slice none 0 0]
 | 5,v,w=>v = .pointer (some ⟨BR,1,none⟩)
 | 6,v,w=>v = .int .i64 rk
 | 7,v,w=>v = .agg #[.int .i64 1,.int .i64 rk,.string ⟨#[]⟩,.slice none 0 0]
 | 8,v,w=>v = .pointer (some ⟨BR,2,none⟩)
 | 9,v,w=>v = .string rd
 | 10,v,w=>v = .agg #[.int .i64 2,.int .i64 0,.string rd,.slice none 0 0]
 | 11,v,w=>∃ b,v = .slice (some ⟨b,0,none⟩) 3 3∧w1.heap.size≤b∧w.heap[b]? = some (.cells #[.int .i64 1,.int .i64 rt,.string ⟨#[]⟩,.slice none 0 0,.int .i64 1,.int .i64 rk,.string ⟨#[]⟩,.slice none 0 0,.int .i64 2,.int .i64 0,.string rd,.slice none 0 0] 70 (0,0))
 | 12,v,w=>∃ b,v = .agg #[.int .i64 3,.int .i64 0,.string ⟨#[]⟩,.slice (some ⟨b,0,none⟩) 3 3]∧w1.heap.size≤b∧w.heap[b]? = some (.cells #[.int .i64 1,.int .i64 rt,.string ⟨#[]⟩,.slice none 0 0,.int .i64 1,.int .i64 rk,.string ⟨#[]⟩,.slice none 0 0,.int .i64 2,.int .i64 0,.string rd,.slice none 0 0] 70 (0,0))
 | 13,v,w=>∃ b c,v = .slice (some ⟨c,0,none⟩) 1 1∧(w1.heap.size≤b∧w.heap[b]? = some (.cells #[.int .i64 1,.int .i64 rt,.string ⟨#[]⟩,.slice none 0 0,.int .i64 1,.int .i64 rk,.string ⟨#[]⟩,.slice none 0 0,.int .i64 2,.int .i64 0,.string rd,.slice none 0 0] 70 (0,0)))∧w.heap[c]? = some (.cells #[.int .i64 3,.int .i64 0,.string ⟨#[]⟩,.slice (some ⟨b,0,none⟩) 3 3] 70 (0,0))
 | 14,v,w=>∃ a3 c3 cells3,v = .slice a3 (acc.length+[recV ⟨rt,rk,rd⟩].length) c3∧MadeB base bx acc [recV ⟨rt,rk,rd⟩] va vc a3 c3 cells3 w
 | 15,v,w=>v = .pointer (some ⟨bx,3,none⟩)
 | _,_,_=>True
def rprD:Nat→List Nat
 | 14=>[13]
 | _=>[]
theorem rpr_keep (base bx BR:Nat) (rt rk:Int) (rd:ByteArray) (va:Option Addr) (vc:Nat) (acc:List V) (cells:List Value) (w1:World):∀ (j:Nat) (u:Value) (w w':World),Below w.heap.size w w'→(rprT base bx BR rt rk rd va vc acc cells w1) j u w→(rprT base bx BR rt rk rd va vc acc cells w1) j u w'
 | 11,u,w,w',hb,h=>by obtain⟨b,rfl,h1,h2⟩:=h; exact⟨b,rfl,h1,(hb.block _ (lt_of_block h2)).trans h2⟩
 | 12,u,w,w',hb,h=>by obtain⟨b,rfl,h1,h2⟩:=h; exact⟨b,rfl,h1,(hb.block _ (lt_of_block h2)).trans h2⟩
 | 13,u,w,w',hb,h=>by obtain⟨b,c,rfl,⟨h1,h2⟩,h3⟩:=h; exact⟨b,c,rfl,⟨h1,(hb.block _ (lt_of_block h2)).trans h2⟩,(hb.block _ (lt_of_block h3)).trans h3⟩
 | 14,u,w,w',hb,h=>by obtain⟨a3,c3,cells3,rfl,h1⟩:=h; exact⟨a3,c3,cells3,rfl,h1.under hb⟩
 | 0,u,w,w',hb,h=>h
 | 1,u,w,w',hb,h=>h
 | 2,u,w,w',hb,h=>h
 | 3,u,w,w',hb,h=>h
 | 4,u,w,w',hb,h=>h
 | 5,u,w,w',hb,h=>h
 | 6,u,w,w',hb,h=>h
 | 7,u,w,w',hb,h=>h
 | 8,u,w,w',hb,h=>h
 | 9,u,w,w',hb,h=>h
 | 10,u,w,w',hb,h=>h
 | 15,u,w,w',hb,h=>h
 | _+16,u,w,w',hb,h=>trivial
set_option maxHeartbeats 4000000 in
theorem rpr_steps (base bx BR:Nat) (rt rk:Int) (rd:ByteArray) (va:Option Addr) (vc:Nat) (acc:List V) (cells:List Value) (w1:World) (hbw:base≤w1.heap.size) (hBRl:BR<w1.heap.size) (hBRn:some BR≠(Value.slice va acc.length vc).ownBlock) (hBRo:w1.heap[BR]? = some (.cells #[.int .i64 rt,.int .i64 rk,.string rd] 67 (0,0))) (hvl:∀ k,(Value.slice va acc.length vc).ownBlock=some k→k<w1.heap.size) (hn:acc.length≤1000000) (hV:Tryz.prog.underlying 68 = some (.slice 70)) {a:Act}(hs:a.tmps.size=90) (b8:a.eval (.tmp 8) = .pointer (some ⟨bx,0,none⟩)) (b10:a.eval (.tmp 10) = .pointer (some ⟨BR,0,none⟩)):∀ i o,i<16→(regOf Tryz.f11 16)[i]? = some o→StepOkE Tryz.prog (regOf Tryz.f11 16) a (fun e w=>(fun w=>w1.grownBy w (Value.slice va acc.length vc).ownBlock) w∧(e 14=none→(fun w=>MakingB base bx acc va vc cells w) w)) (rprT base bx BR rt rk rd va vc acc cells w1) rprD i o:=by
 have hz:∀ t,Nat.blt t 90=true→Nat.blt t a.tmps.size=true:=fun t h=>by rw [hs]; exact h
 have hsz:(regOf Tryz.f11 16).size=17:=by kernel_rfl
 intro i o hii ho
 match i,hii with
 | 0,_ =>
   have ho1:=opIs ho (p:=.fieldAddr 70 (.tmp 8) 3) (by kernel_rfl)
   have hg:=guardIs ho (p:=none) (by kernel_rfl)
   intro e A w hA hC hp hup K hk
   have hM:=hC.2 (hup 14 (by kernel_rfl))
   replace hC:=hC.1
   replace hk:Next (regOf Tryz.f11 16) (fun w=>(fun w=>w1.grownBy w (Value.slice va acc.length vc).ownBlock) w∧(fun w=>MakingB base bx acc va vc cells w) w) (rprT base bx BR rt rk rd va vc acc cells w1) rprD 0 e A w o.dst K:=hk.next fun v w h=>⟨h.1,fun _=>h.2⟩
   have hCM:=And.intro hC hM
   have x8:A.eval (.tmp 8) = .pointer (some ⟨bx,0,none⟩):=filled_base hA (by kernel_rfl) b8
   have hw:Region.wanted o (yielded (regOf Tryz.f11 16) A.tmps)=true:=wanted_free hg
   refine step_pure (v:=.pointer (some ⟨bx,3,none⟩)) hk hCM hw ?_ rfl
   unfold execOp
   simp only [ho1]
   generalize A.eval=ρ at x8 ⊢
   simp [go_sem,x8]
 | 1,_ =>
   have ho1:=opIs ho (p:=.load 68 (.tmp 40)) (by kernel_rfl)
   have hg:=guardIs ho (p:=none) (by kernel_rfl)
   intro e A w hA hC hp hup K hk
   have hM:=hC.2 (hup 14 (by kernel_rfl))
   replace hC:=hC.1
   replace hk:Next (regOf Tryz.f11 16) (fun w=>(fun w=>w1.grownBy w (Value.slice va acc.length vc).ownBlock) w∧(fun w=>MakingB base bx acc va vc cells w) w) (rprT base bx BR rt rk rd va vc acc cells w1) rprD 1 e A w o.dst K:=hk.next fun v w h=>⟨h.1,fun _=>h.2⟩
   have hCM:=And.intro hC hM
   have x40:A.eval (.tmp 40) = .pointer (some ⟨bx,3,none⟩):=op_tmp hA hp 40 0 (by kernel_rfl) (by kernel_rfl) (by kernel_rfl) (hz _ rfl)
   have hw:Region.wanted o (yielded (regOf Tryz.f11 16) A.tmps)=true:=wanted_free hg
   have e1:=hM.box.c3
   refine step_pure (v:=.slice va acc.length vc) hk hCM hw ?_ rfl
   unfold execOp
   simp only [ho1]
   generalize A.eval=ρ at x40 ⊢
   simp [go_sem,x40,e1]
 | 2,_ =>
   have ho1:=opIs ho (p:=.fieldAddr 67 (.tmp 10) 0) (by kernel_rfl)
   have hg:=guardIs ho (p:=none) (by kernel_rfl)
   intro e A w hA hC hp hup K hk
   have hM:=hC.2 (hup 14 (by kernel_rfl))
   replace hC:=hC.1
   replace hk:Next (regOf Tryz.f11 16) (fun w=>(fun w=>w1.grownBy w (Value.slice va acc.length vc).ownBlock) w∧(fun w=>MakingB base bx acc va vc cells w) w) (rprT base bx BR rt rk rd va vc acc cells w1) rprD 2 e A w o.dst K:=hk.next fun v w h=>⟨h.1,fun _=>h.2⟩
   have hCM:=And.intro hC hM
   have x10:A.eval (.tmp 10) = .pointer (some ⟨BR,0,none⟩):=filled_base hA (by kernel_rfl) b10
   have hw:Region.wanted o (yielded (regOf Tryz.f11 16) A.tmps)=true:=wanted_free hg
   refine step_pure (v:=.pointer (some ⟨BR,0,none⟩)) hk hCM hw ?_ rfl
   unfold execOp
   simp only [ho1]
   generalize A.eval=ρ at x10 ⊢
   simp [go_sem,x10]
 | 3,_ =>
   have ho1:=opIs ho (p:=.load 3 (.tmp 42)) (by kernel_rfl)
   have hg:=guardIs ho (p:=none) (by kernel_rfl)
   intro e A w hA hC hp hup K hk
   have hM:=hC.2 (hup 14 (by kernel_rfl))
   replace hC:=hC.1
   replace hk:Next (regOf Tryz.f11 16) (fun w=>(fun w=>w1.grownBy w (Value.slice va acc.length vc).ownBlock) w∧(fun w=>MakingB base bx acc va vc cells w) w) (rprT base bx BR rt rk rd va vc acc cells w1) rprD 3 e A w o.dst K:=hk.next fun v w h=>⟨h.1,fun _=>h.2⟩
   have hCM:=And.intro hC hM
   have x42:A.eval (.tmp 42) = .pointer (some ⟨BR,0,none⟩):=op_tmp hA hp 42 2 (by kernel_rfl) (by kernel_rfl) (by kernel_rfl) (hz _ rfl)
   have hw:Region.wanted o (yielded (regOf Tryz.f11 16) A.tmps)=true:=wanted_free hg
   have e1:=(Lib.cell_of_heap ((hC.block BR hBRl hBRn).trans hBRo) 0).trans (show _=some (Value.int .i64 rt) from rfl)
   refine step_pure (v:=.int .i64 rt) hk hCM hw ?_ rfl
   unfold execOp
   simp only [ho1]
   generalize A.eval=ρ at x42 ⊢
   simp [go_sem,x42,e1]
 | 4,_ =>
   have ho1:=opIs ho (p:=.call { callee:=(.value (.func 38)),args:=#[(.tmp 43)],argTypes:=#[3] }) (by kernel_rfl)
   have hg:=guardIs ho (p:=none) (by kernel_rfl)
   intro e A w hA hC hp hup K hk
   have hM:=hC.2 (hup 14 (by kernel_rfl))
   replace hC:=hC.1
   replace hk:Next (regOf Tryz.f11 16) (fun w=>(fun w=>w1.grownBy w (Value.slice va acc.length vc).ownBlock) w∧(fun w=>MakingB base bx acc va vc cells w) w) (rprT base bx BR rt rk rd va vc acc cells w1) rprD 4 e A w o.dst K:=hk.next fun v w h=>⟨h.1,fun _=>h.2⟩
   have hCM:=And.intro hC hM
   have x43:A.eval (.tmp 43) = .int .i64 rt:=op_tmp hA hp 43 3 (by kernel_rfl) (by kernel_rfl) (by kernel_rfl) (hz _ rfl)
   have hw:Region.wanted o (yielded (regOf Tryz.f11 16) A.tmps)=true:=wanted_free hg
   refine step_call (f:=38) (args:=#[.int .i64 rt]) hk hw ?_ ?_
   ·unfold execOp
    simp only [ho1]
    have xf:∀ f,A.eval (.func f) = .func (.func f) #[] #[]:=fun _=>rfl
    generalize A.eval=ρ at x43 xf ⊢
    simp [go_sem,xf,x43]
   ·refine (rnum21_any rt w).mono ?_
    rintro en w' ⟨rfl,hb'⟩
    exact⟨_,rfl,rfl,⟨grown_trans hC (grown_of_below hb' _),hM.under hb'⟩,fun j u _ _ _ _ h=>rpr_keep base bx BR rt rk rd va vc acc cells w1 j u w _ hb' h⟩
 | 5,_ =>
   have ho1:=opIs ho (p:=.fieldAddr 67 (.tmp 10) 1) (by kernel_rfl)
   have hg:=guardIs ho (p:=none) (by kernel_rfl)
   intro e A w hA hC hp hup K hk
   have hM:=hC.2 (hup 14 (by kernel_rfl))
   replace hC:=hC.1
   replace hk:Next (regOf Tryz.f11 16) (fun w=>(fun w=>w1.grownBy w (Value.slice va acc.length vc).ownBlock) w∧(fun w=>MakingB base bx acc va vc cells w) w) (rprT base bx BR rt rk rd va vc acc cells w1) rprD 5 e A w o.dst K:=hk.next fun v w h=>⟨h.1,fun _=>h.2⟩
   have hCM:=And.intro hC hM
   have x10:A.eval (.tmp 10) = .pointer (some ⟨BR,0,none⟩):=filled_base hA (by kernel_rfl) b10
   have hw:Region.wanted o (yielded (regOf Tryz.f11 16) A.tmps)=true:=wanted_free hg
   refine step_pure (v:=.pointer (some ⟨BR,1,none⟩)) hk hCM hw ?_ rfl
   unfold execOp
   simp only [ho1]
   generalize A.eval=ρ at x10 ⊢
   simp [go_sem,x10]
 | 6,_ =>
   have ho1:=opIs ho (p:=.load 3 (.tmp 45)) (by kernel_rfl)
   have hg:=guardIs ho (p:=none) (by kernel_rfl)
   intro e A w hA hC hp hup K hk
   have hM:=hC.2 (hup 14 (by kernel_rfl))
   replace hC:=hC.1
   replace hk:Next (regOf Tryz.f11 16) (fun w=>(fun w=>w1.grownBy w (Value.slice va acc.length vc).ownBlock) w∧(fun w=>MakingB base bx acc va vc cells w) w) (rprT base bx BR rt rk rd va vc acc cells w1) rprD 6 e A w o.dst K:=hk.next fun v w h=>⟨h.1,fun _=>h.2⟩
   have hCM:=And.intro hC hM
   have x45:A.eval (.tmp 45) = .pointer (some ⟨BR,1,none⟩):=op_tmp hA hp 45 5 (by kernel_rfl) (by kernel_rfl) (by kernel_rfl) (hz _ rfl)
   have hw:Region.wanted o (yielded (regOf Tryz.f11 16) A.tmps)=true:=wanted_free hg
   have e1:=(Lib.cell_of_heap ((hC.block BR hBRl hBRn).trans hBRo) 1).trans (show _=some (Value.int .i64 rk) from rfl)
   refine step_pure (v:=.int .i64 rk) hk hCM hw ?_ rfl
   unfold execOp
   simp only [ho1]
   generalize A.eval=ρ at x45 ⊢
   simp [go_sem,x45,e1]
 | 7,_ =>
   have ho1:=opIs ho (p:=.call { callee:=(.value (.func 38)),args:=#[(.tmp 46)],argTypes:=#[3] }) (by kernel_rfl)
   have hg:=guardIs ho (p:=none) (by kernel_rfl)
   intro e A w hA hC hp hup K hk
   have hM:=hC.2 (hup 14 (by kernel_rfl))
   replace hC:=hC.1
   replace hk:Next (regOf Tryz.f11 16) (fun w=>(fun w=>w1.grownBy w (Value.slice va acc.length vc).ownBlock) w∧(fun w=>MakingB base bx acc va vc cells w) w) (rprT base bx BR rt rk rd va vc acc cells w1) rprD 7 e A w o.dst K:=hk.next fun v w h=>⟨h.1,fun _=>h.2⟩
   have hCM:=And.intro hC hM
   have x46:A.eval (.tmp 46) = .int .i64 rk:=op_tmp hA hp 46 6 (by kernel_rfl) (by kernel_rfl) (by kernel_rfl) (hz _ rfl)
   have hw:Region.wanted o (yielded (regOf Tryz.f11 16) A.tmps)=true:=wanted_free hg
   refine step_call (f:=38) (args:=#[.int .i64 rk]) hk hw ?_ ?_
   ·unfold execOp
    simp only [ho1]
    have xf:∀ f,A.eval (.func f) = .func (.func f) #[] #[]:=fun _=>rfl
    generalize A.eval=ρ at x46 xf ⊢
    simp [go_sem,xf,x46]
   ·refine (rnum21_any rk w).mono ?_
    rintro en w' ⟨rfl,hb'⟩
    exact⟨_,rfl,rfl,⟨grown_trans hC (grown_of_below hb' _),hM.under hb'⟩,fun j u _ _ _ _ h=>rpr_keep base bx BR rt rk rd va vc acc cells w1 j u w _ hb' h⟩
 | 8,_ =>
   have ho1:=opIs ho (p:=.fieldAddr 67 (.tmp 10) 2) (by kernel_rfl)
   have hg:=guardIs ho (p:=none) (by kernel_rfl)
   intro e A w hA hC hp hup K hk
   have hM:=hC.2 (hup 14 (by kernel_rfl))
   replace hC:=hC.1
   replace hk:Next (regOf Tryz.f11 16) (fun w=>(fun w=>w1.grownBy w (Value.slice va acc.length vc).ownBlock) w∧(fun w=>MakingB base bx acc va vc cells w) w) (rprT base bx BR rt rk rd va vc acc cells w1) rprD 8 e A w o.dst K:=hk.next fun v w h=>⟨h.1,fun _=>h.2⟩
   have hCM:=And.intro hC hM
   have x10:A.eval (.tmp 10) = .pointer (some ⟨BR,0,none⟩):=filled_base hA (by kernel_rfl) b10
   have hw:Region.wanted o (yielded (regOf Tryz.f11 16) A.tmps)=true:=wanted_free hg
   refine step_pure (v:=.pointer (some ⟨BR,2,none⟩)) hk hCM hw ?_ rfl
   unfold execOp
   simp only [ho1]
   generalize A.eval=ρ at x10 ⊢
   simp [go_sem,x10]
 | 9,_ =>
   have ho1:=opIs ho (p:=.load 9 (.tmp 48)) (by kernel_rfl)
   have hg:=guardIs ho (p:=none) (by kernel_rfl)
   intro e A w hA hC hp hup K hk
   have hM:=hC.2 (hup 14 (by kernel_rfl))
   replace hC:=hC.1
   replace hk:Next (regOf Tryz.f11 16) (fun w=>(fun w=>w1.grownBy w (Value.slice va acc.length vc).ownBlock) w∧(fun w=>MakingB base bx acc va vc cells w) w) (rprT base bx BR rt rk rd va vc acc cells w1) rprD 9 e A w o.dst K:=hk.next fun v w h=>⟨h.1,fun _=>h.2⟩
   have hCM:=And.intro hC hM
   have x48:A.eval (.tmp 48) = .pointer (some ⟨BR,2,none⟩):=op_tmp hA hp 48 8 (by kernel_rfl) (by kernel_rfl) (by kernel_rfl) (hz _ rfl)
   have hw:Region.wanted o (yielded (regOf Tryz.f11 16) A.tmps)=true:=wanted_free hg
   have e1:=(Lib.cell_of_heap ((hC.block BR hBRl hBRn).trans hBRo) 2).trans (show _=some (Value.string rd) from rfl)
   refine step_pure (v:=.string rd) hk hCM hw ?_ rfl
   unfold execOp
   simp only [ho1]
   generalize A.eval=ρ at x48 ⊢
   simp [go_sem,x48,e1]
 | 10,_ =>
   have ho1:=opIs ho (p:=.build 70 #[(0,(.const (.int .i64 2))),(2,(.tmp 49))]) (by kernel_rfl)
   have hg:=guardIs ho (p:=none) (by kernel_rfl)
   intro e A w hA hC hp hup K hk
   have hM:=hC.2 (hup 14 (by kernel_rfl))
   replace hC:=hC.1
   replace hk:Next (regOf Tryz.f11 16) (fun w=>(fun w=>w1.grownBy w (Value.slice va acc.length vc).ownBlock) w∧(fun w=>MakingB base bx acc va vc cells w) w) (rprT base bx BR rt rk rd va vc acc cells w1) rprD 10 e A w o.dst K:=hk.next fun v w h=>⟨h.1,fun _=>h.2⟩
   have hCM:=And.intro hC hM
   have x49:A.eval (.tmp 49) = .string rd:=op_tmp hA hp 49 9 (by kernel_rfl) (by kernel_rfl) (by kernel_rfl) (hz _ rfl)
   have hw:Region.wanted o (yielded (regOf Tryz.f11 16) A.tmps)=true:=wanted_free hg
   refine step_pure (v:=.agg #[.int .i64 2,.int .i64 0,.string rd,.slice none 0 0]) hk hCM hw ?_ rfl
   unfold execOp
   simp only [ho1]
   have xc:∀ v,A.eval (.const v)=v:=fun _=>rfl
   generalize A.eval=ρ at x49 xc ⊢
   simp [go_sem,x49,xc]
 | 11,_ =>
   have ho1:=opIs ho (p:=.buildSlice 68 3 #[(0,(.tmp 44)),(1,(.tmp 47)),(2,(.tmp 50))]) (by kernel_rfl)
   have hg:=guardIs ho (p:=none) (by kernel_rfl)
   intro e A w hA hC hp hup K hk
   have hM:=hC.2 (hup 14 (by kernel_rfl))
   replace hC:=hC.1
   replace hk:Next (regOf Tryz.f11 16) (fun w=>(fun w=>w1.grownBy w (Value.slice va acc.length vc).ownBlock) w∧(fun w=>MakingB base bx acc va vc cells w) w) (rprT base bx BR rt rk rd va vc acc cells w1) rprD 11 e A w o.dst K:=hk.next fun v w h=>⟨h.1,fun _=>h.2⟩
   have hCM:=And.intro hC hM
   have x44:A.eval (.tmp 44) = .agg #[.int .i64 1,.int .i64 rt,.string ⟨#[]⟩,.slice none 0 0]:=op_tmp hA hp 44 4 (by kernel_rfl) (by kernel_rfl) (by kernel_rfl) (hz _ rfl)
   have x47:A.eval (.tmp 47) = .agg #[.int .i64 1,.int .i64 rk,.string ⟨#[]⟩,.slice none 0 0]:=op_tmp hA hp 47 7 (by kernel_rfl) (by kernel_rfl) (by kernel_rfl) (hz _ rfl)
   have x50:A.eval (.tmp 50) = .agg #[.int .i64 2,.int .i64 0,.string rd,.slice none 0 0]:=op_tmp hA hp 50 10 (by kernel_rfl) (by kernel_rfl) (by kernel_rfl) (hz _ rfl)
   have hw:Region.wanted o (yielded (regOf Tryz.f11 16) A.tmps)=true:=wanted_free hg
   refine step_value (v:=.slice (some ⟨w.heap.size,0,none⟩) 3 3) (w':=w.alloc (.cells #[.int .i64 1,.int .i64 rt,.string ⟨#[]⟩,.slice none 0 0,.int .i64 1,.int .i64 rk,.string ⟨#[]⟩,.slice none 0 0,.int .i64 2,.int .i64 0,.string rd,.slice none 0 0] 70)) hk hw ?_ ?_ ?_ ?_
   ·unfold execOp
    simp only [ho1]
    generalize A.eval=ρ at x44 x47 x50 ⊢
    simp [go_sem,x44,x47,x50]
   ·exact⟨w.heap.size,rfl,hC.size,heap_alloc_new w _⟩
   ·exact⟨grown_trans hC (World.grownBy_alloc w _ _),hM.under ((Below.refl _ w).alloc (Nat.le_refl _) _)⟩
   ·intro j u _ _ _ _ h
    exact rpr_keep base bx BR rt rk rd va vc acc cells w1 j u w _ ((Below.refl _ w).alloc (Nat.le_refl _) _) h
 | 12,_ =>
   have ho1:=opIs ho (p:=.build 70 #[(0,(.const (.int .i64 3))),(3,(.tmp 51))]) (by kernel_rfl)
   have hg:=guardIs ho (p:=none) (by kernel_rfl)
   intro e A w hA hC hp hup K hk
   have hM:=hC.2 (hup 14 (by kernel_rfl))
   replace hC:=hC.1
   replace hk:Next (regOf Tryz.f11 16) (fun w=>(fun w=>w1.grownBy w (Value.slice va acc.length vc).ownBlock) w∧(fun w=>MakingB base bx acc va vc cells w) w) (rprT base bx BR rt rk rd va vc acc cells w1) rprD 12 e A w o.dst K:=hk.next fun v w h=>⟨h.1,fun _=>h.2⟩
   have hCM:=And.intro hC hM
   have x51:=op_tmp hA hp 51 11 (by kernel_rfl) (by kernel_rfl) (by kernel_rfl) (hz _ rfl)
   have hw:Region.wanted o (yielded (regOf Tryz.f11 16) A.tmps)=true:=wanted_free hg
   obtain⟨b,x51,h1,h2⟩:=x51
   refine step_pure (v:=.agg #[.int .i64 3,.int .i64 0,.string ⟨#[]⟩,.slice (some ⟨b,0,none⟩) 3 3]) hk hCM hw ?_ ⟨b,rfl,h1,h2⟩
   unfold execOp
   simp only [ho1]
   have xc:∀ v,A.eval (.const v)=v:=fun _=>rfl
   generalize A.eval=ρ at x51 xc ⊢
   simp [go_sem,x51,xc]
 | 13,_ =>
   have ho1:=opIs ho (p:=.buildSlice 68 1 #[(0,(.tmp 52))]) (by kernel_rfl)
   have hg:=guardIs ho (p:=none) (by kernel_rfl)
   intro e A w hA hC hp hup K hk
   have hM:=hC.2 (hup 14 (by kernel_rfl))
   replace hC:=hC.1
   replace hk:Next (regOf Tryz.f11 16) (fun w=>(fun w=>w1.grownBy w (Value.slice va acc.length vc).ownBlock) w∧(fun w=>MakingB base bx acc va vc cells w) w) (rprT base bx BR rt rk rd va vc acc cells w1) rprD 13 e A w o.dst K:=hk.next fun v w h=>⟨h.1,fun _=>h.2⟩
   have hCM:=And.intro hC hM
   have x52:=op_tmp hA hp 52 12 (by kernel_rfl) (by kernel_rfl) (by kernel_rfl) (hz _ rfl)
   have hw:Region.wanted o (yielded (regOf Tryz.f11 16) A.tmps)=true:=wanted_free hg
   obtain⟨b,x52,h1,h2⟩:=x52
   refine step_value (v:=.slice (some ⟨w.heap.size,0,none⟩) 1 1) (w':=w.alloc (.cells #[.int .i64 3,.int .i64 0,.string ⟨#[]⟩,.slice (some ⟨b,0,none⟩) 3 3] 70)) hk hw ?_ ?_ ?_ ?_
   ·unfold execOp
    simp only [ho1]
    generalize A.eval=ρ at x52 ⊢
    simp [go_sem,x52]
   ·exact⟨b,w.heap.size,rfl,⟨h1,(heap_alloc_old w _ (lt_of_block h2)).trans h2⟩,heap_alloc_new w _⟩
   ·exact⟨grown_trans hC (World.grownBy_alloc w _ _),hM.under ((Below.refl _ w).alloc (Nat.le_refl _) _)⟩
   ·intro j u _ _ _ _ h
    exact rpr_keep base bx BR rt rk rd va vc acc cells w1 j u w _ ((Below.refl _ w).alloc (Nat.le_refl _) _) h
 | 14,_ =>
   have ho1:=opIs ho (p:=.call { callee:=(.builtin .append),args:=#[(.tmp 41),(.tmp 53)],argTypes:=#[68,68] }) (by kernel_rfl)
   have hg:=guardIs ho (p:=none) (by kernel_rfl)
   intro e A w hA hC hp hup K hk
   have hM:=hC.2 (hup 14 (by kernel_rfl))
   have x41:A.eval (.tmp 41) = .slice va acc.length vc:=op_tmp hA hp 41 1 (by kernel_rfl) (by kernel_rfl) (by kernel_rfl) (hz _ rfl)
   have x53:=op_tmp hA hp 53 13 (by kernel_rfl) (by kernel_rfl) (by kernel_rfl) (hz _ rfl)
   have hw:Region.wanted o (yielded (regOf Tryz.f11 16) A.tmps)=true:=wanted_free hg
   obtain⟨b,c,x53,⟨h1,h2⟩,h3⟩:=x53
   have hat:V.At w (fun p=>w1.heap.size≤p∧p<w.heap.size) (recV ⟨rt,rk,rd⟩) [.int .i64 3,.int .i64 0,.string ⟨#[]⟩,.slice (some ⟨b,0,none⟩) 3 3]:=by
    simp only [recV,listV,numV,textV,V.At,VAll]
    refine⟨some ⟨b,0,none⟩,3,rfl,Nat.le_refl _,(fun e=>by cases e),⟨b,0,[.int .i64 1,.int .i64 rt,.string ⟨#[]⟩,.slice none 0 0],rfl,⟨h1,lt_of_block h2⟩,⟨none,0,rfl,Nat.le_refl _,fun _=>rfl,trivial⟩,fun j u hj=>?_⟩,⟨b,0,[.int .i64 1,.int .i64 rk,.string ⟨#[]⟩,.slice none 0 0],rfl,⟨h1,lt_of_block h2⟩,⟨none,0,rfl,Nat.le_refl _,fun _=>rfl,trivial⟩,fun j u hj=>?_⟩,⟨b,0,[.int .i64 2,.int .i64 0,.string rd,.slice none 0 0],rfl,⟨h1,lt_of_block h2⟩,⟨none,0,rfl,Nat.le_refl _,fun _=>rfl,trivial⟩,fun j u hj=>?_⟩,trivial⟩
    ·match j,hj with
     | 0,hj=>exact (Lib.cell_of_heap h2 _).trans hj
     | 1,hj=>exact (Lib.cell_of_heap h2 _).trans hj
     | 2,hj=>exact (Lib.cell_of_heap h2 _).trans hj
     | 3,hj=>exact (Lib.cell_of_heap h2 _).trans hj
    ·match j,hj with
     | 0,hj=>exact (Lib.cell_of_heap h2 _).trans hj
     | 1,hj=>exact (Lib.cell_of_heap h2 _).trans hj
     | 2,hj=>exact (Lib.cell_of_heap h2 _).trans hj
     | 3,hj=>exact (Lib.cell_of_heap h2 _).trans hj
    ·match j,hj with
     | 0,hj=>exact (Lib.cell_of_heap h2 _).trans hj
     | 1,hj=>exact (Lib.cell_of_heap h2 _).trans hj
     | 2,hj=>exact (Lib.cell_of_heap h2 _).trans hj
     | 3,hj=>exact (Lib.cell_of_heap h2 _).trans hj
   have hrw:RowOf w (fun p=>w1.heap.size≤p∧p<w.heap.size) [recV ⟨rt,rk,rd⟩] [.int .i64 3,.int .i64 0,.string ⟨#[]⟩,.slice (some ⟨b,0,none⟩) 3 3]:=by have:=RowOf.snoc RowOf.nil hat; exact this
   obtain⟨a3,c3,cells3,w',hr,hg,hmade⟩:=makingB_append hM [recV ⟨rt,rk,rd⟩] _ 1 c w1.heap.size _ 68 o.type hV h3 rfl hrw hbw hvl (by decide) (by decide) hn
   rw [if_pos hw]
   unfold Oper.wp
   rw [show (execOp A.eval o).run Tryz.prog w = .ok (.value (.slice a3 (acc.length+[recV ⟨rt,rk,rd⟩].length) c3)) w' by
    unfold execOp
    simp only [ho1,resolve,invoke,builtin,Sem.run_bind,Sem.run_pure,Result.andThen_ok,List.map_toArray,List.map_cons,List.map_nil,x41,x53,hr]]
   have hown:∀ p,w1.heap.size≤p→some p≠(Value.slice va acc.length vc).ownBlock:=fun p hp e=>by have:=hvl p e.symm; omega
   refine hk _ _ ⟨a3,c3,cells3,rfl,hmade⟩ ⟨grown_trans hC.1 hg,fun h=>by rw [Vals.set_same] at h; cases h⟩ ?_
   intro j u hj hji _ hd h
   match j,h with
   | 0,h=>exact h
   | 1,h=>exact h
   | 2,h=>exact h
   | 3,h=>exact h
   | 4,h=>exact h
   | 5,h=>exact h
   | 6,h=>exact h
   | 7,h=>exact h
   | 8,h=>exact h
   | 9,h=>exact h
   | 10,h=>exact h
   | 11,h=>obtain⟨b,rfl,h1,h2⟩:=h; exact⟨b,rfl,h1,(hg.block _ (lt_of_block h2) (hown _ h1)).trans h2⟩
   | 12,h=>obtain⟨b,rfl,h1,h2⟩:=h; exact⟨b,rfl,h1,(hg.block _ (lt_of_block h2) (hown _ h1)).trans h2⟩
   | 13,h=>exact absurd rfl (hd 14 (by rw [hsz]; decide) rfl).1
   | 14,h=>exact absurd rfl hji
   | 15,h=>exact h
   | _+16,h=>trivial
 | 15,_ =>
   have ho1:=opIs ho (p:=.fieldAddr 70 (.tmp 8) 3) (by kernel_rfl)
   have hg:=guardIs ho (p:=none) (by kernel_rfl)
   intro e A w hA hC hp hup K hk
   replace hk:Next (regOf Tryz.f11 16) (fun w=>(fun w=>w1.grownBy w (Value.slice va acc.length vc).ownBlock) w∧(e 14=none→(fun w=>MakingB base bx acc va vc cells w) w)) (rprT base bx BR rt rk rd va vc acc cells w1) rprD 15 e A w o.dst K:=hk.next fun v w h=>⟨h.1,fun he=>h.2 (by rwa [Vals.set_other e v (by decide)] at he)⟩
   have hCM:=hC
   have x8:A.eval (.tmp 8) = .pointer (some ⟨bx,0,none⟩):=filled_base hA (by kernel_rfl) b8
   have hw:Region.wanted o (yielded (regOf Tryz.f11 16) A.tmps)=true:=wanted_free hg
   refine step_pure (v:=.pointer (some ⟨bx,3,none⟩)) hk hCM hw ?_ rfl
   unfold execOp
   simp only [ho1]
   generalize A.eval=ρ at x8 ⊢
   simp [go_sem,x8]
 | _+16,h=>exact absurd h (by omega)
def rpmT (BH bx by_:Nat) (kd fr ds tm:Int) (ok:Bool) (ix lt:Int) (ar:Option Addr) (nr cr:Nat) (cm:Int) (sn:ByteArray) (av:Option Addr) (nv cv:Nat) (va:Option Addr) (N vc:Nat) (vb:Option Addr) (M vd:Nat) (rs:List Rc) (vs:List Int) (P1:ByteArray) (P2:Int) (w1:World):Nat→Value→World→Prop
 | 0,v,w=>v = .pointer (some ⟨BH,0,none⟩)
 | 1,v,w=>v = .int .i64 kd
 | 2,v,w=>v = .agg #[.int .i64 1,.int .i64 kd,.string ⟨#[]⟩,.slice none 0 0]
 | 3,v,w=>v = .pointer (some ⟨BH,1,none⟩)
 | 4,v,w=>v = .int .i64 fr
 | 5,v,w=>v = .agg #[.int .i64 1,.int .i64 fr,.string ⟨#[]⟩,.slice none 0 0]
 | 6,v,w=>v = .pointer (some ⟨BH,2,none⟩)
 | 7,v,w=>v = .int .i64 ds
 | 8,v,w=>v = .agg #[.int .i64 1,.int .i64 ds,.string ⟨#[]⟩,.slice none 0 0]
 | 9,v,w=>v = .pointer (some ⟨BH,3,none⟩)
 | 10,v,w=>v = .int .i64 tm
 | 11,v,w=>v = .agg #[.int .i64 1,.int .i64 tm,.string ⟨#[]⟩,.slice none 0 0]
 | 12,v,w=>v = .int .i64 (okI ok)
 | 13,v,w=>v = .agg #[.int .i64 1,.int .i64 (okI ok),.string ⟨#[]⟩,.slice none 0 0]
 | 14,v,w=>v = .pointer (some ⟨BH,5,none⟩)
 | 15,v,w=>v = .int .i64 ix
 | 16,v,w=>v = .agg #[.int .i64 1,.int .i64 ix,.string ⟨#[]⟩,.slice none 0 0]
 | 17,v,w=>v = .pointer (some ⟨BH,6,none⟩)
 | 18,v,w=>v = .int .i64 lt
 | 19,v,w=>v = .agg #[.int .i64 1,.int .i64 lt,.string ⟨#[]⟩,.slice none 0 0]
 | 20,v,w=>v = .pointer (some ⟨BH,8,none⟩)
 | 21,v,w=>v = .int .i64 cm
 | 22,v,w=>v = .agg #[.int .i64 1,.int .i64 cm,.string ⟨#[]⟩,.slice none 0 0]
 | 23,v,w=>v = .pointer (some ⟨BH,9,none⟩)
 | 24,v,w=>v = .string sn
 | 25,v,w=>v = .agg #[.int .i64 2,.int .i64 0,.string sn,.slice none 0 0]
 | 26,v,w=>v = .agg #[.int .i64 3,.int .i64 0,.string ⟨#[]⟩,.slice va N vc]
 | 27,v,w=>v = .agg #[.int .i64 3,.int .i64 0,.string ⟨#[]⟩,.slice vb M vd]
 | 28,v,w=>∃ c,v = .slice (some ⟨c,0,none⟩) 11 11∧w1.heap.size≤c∧w.heap[c]? = some (.cells #[.int .i64 1,.int .i64 kd,.string ⟨#[]⟩,.slice none 0 0,.int .i64 1,.int .i64 fr,.string ⟨#[]⟩,.slice none 0 0,.int .i64 1,.int .i64 ds,.string ⟨#[]⟩,.slice none 0 0,.int .i64 1,.int .i64 tm,.string ⟨#[]⟩,.slice none 0 0,.int .i64 1,.int .i64 (okI ok),.string ⟨#[]⟩,.slice none 0 0,.int .i64 1,.int .i64 ix,.string ⟨#[]⟩,.slice none 0 0,.int .i64 1,.int .i64 lt,.string ⟨#[]⟩,.slice none 0 0,.int .i64 1,.int .i64 cm,.string ⟨#[]⟩,.slice none 0 0,.int .i64 2,.int .i64 0,.string sn,.slice none 0 0,.int .i64 3,.int .i64 0,.string ⟨#[]⟩,.slice va N vc,.int .i64 3,.int .i64 0,.string ⟨#[]⟩,.slice vb M vd] 70 (0,0))
 | 29,v,w=>∃ c,v = .agg #[.int .i64 3,.int .i64 0,.string ⟨#[]⟩,.slice (some ⟨c,0,none⟩) 11 11]∧w1.heap.size≤c∧w.heap[c]? = some (.cells #[.int .i64 1,.int .i64 kd,.string ⟨#[]⟩,.slice none 0 0,.int .i64 1,.int .i64 fr,.string ⟨#[]⟩,.slice none 0 0,.int .i64 1,.int .i64 ds,.string ⟨#[]⟩,.slice none 0 0,.int .i64 1,.int .i64 tm,.string ⟨#[]⟩,.slice none 0 0,.int .i64 1,.int .i64 (okI ok),.string ⟨#[]⟩,.slice none 0 0,.int .i64 1,.int .i64 ix,.string ⟨#[]⟩,.slice none 0 0,.int .i64 1,.int .i64 lt,.string ⟨#[]⟩,.slice none 0 0,.int .i64 1,.int .i64 cm,.string ⟨#[]⟩,.slice none 0 0,.int .i64 2,.int .i64 0,.string sn,.slice none 0 0,.int .i64 3,.int .i64 0,.string ⟨#[]⟩,.slice va N vc,.int .i64 3,.int .i64 0,.string ⟨#[]⟩,.slice vb M vd] 70 (0,0))
 | 30,v,w=>v = .tuple #[.string P1,.int .i64 P2]
 | 31,v,w=>v = .string P1
 | 32,v,w=>v = .int .i64 P2
 | 33,v,w=>v = .string P1
 | 34,v,w=>v = .int .i64 P2
 | _,_,_=>True
def rpmD:Nat→List Nat
 | _=>[]
theorem rpm_keep (BH bx by_:Nat) (kd fr ds tm:Int) (ok:Bool) (ix lt:Int) (ar:Option Addr) (nr cr:Nat) (cm:Int) (sn:ByteArray) (av:Option Addr) (nv cv:Nat) (va:Option Addr) (N vc:Nat) (vb:Option Addr) (M vd:Nat) (rs:List Rc) (vs:List Int) (P1:ByteArray) (P2:Int) (w1:World):∀ (j:Nat) (u:Value) (w w':World),Below w.heap.size w w'→(rpmT BH bx by_ kd fr ds tm ok ix lt ar nr cr cm sn av nv cv va N vc vb M vd rs vs P1 P2 w1) j u w→(rpmT BH bx by_ kd fr ds tm ok ix lt ar nr cr cm sn av nv cv va N vc vb M vd rs vs P1 P2 w1) j u w'
 | 28,u,w,w',hb,h=>by obtain⟨c,rfl,h2,h3⟩:=h; exact⟨c,rfl,h2,(hb.block _ (lt_of_block h3)).trans h3⟩
 | 29,u,w,w',hb,h=>by obtain⟨c,rfl,h2,h3⟩:=h; exact⟨c,rfl,h2,(hb.block _ (lt_of_block h3)).trans h3⟩
 | 0,u,w,w',hb,h=>h
 | 1,u,w,w',hb,h=>h
 | 2,u,w,w',hb,h=>h
 | 3,u,w,w',hb,h=>h
 | 4,u,w,w',hb,h=>h
 | 5,u,w,w',hb,h=>h
 | 6,u,w,w',hb,h=>h
 | 7,u,w,w',hb,h=>h
 | 8,u,w,w',hb,h=>h
 | 9,u,w,w',hb,h=>h
 | 10,u,w,w',hb,h=>h
 | 11,u,w,w',hb,h=>h
 | 12,u,w,w',hb,h=>h
 | 13,u,w,w',hb,h=>h
 | 14,u,w,w',hb,h=>h
 | 15,u,w,w',hb,h=>h
 | 16,u,w,w',hb,h=>h
 | 17,u,w,w',hb,h=>h
 | 18,u,w,w',hb,h=>h
 | 19,u,w,w',hb,h=>h
 | 20,u,w,w',hb,h=>h
 | 21,u,w,w',hb,h=>h
 | 22,u,w,w',hb,h=>h
 | 23,u,w,w',hb,h=>h
 | 24,u,w,w',hb,h=>h
 | 25,u,w,w',hb,h=>h
 | 26,u,w,w',hb,h=>h
 | 27,u,w,w',hb,h=>h
 | 30,u,w,w',hb,h=>h
 | 31,u,w,w',hb,h=>h
 | 32,u,w,w',hb,h=>h
 | 33,u,w,w',hb,h=>h
 | 34,u,w,w',hb,h=>h
 | _+35,u,w,w',hb,h=>trivial
set_option maxHeartbeats 4000000 in
theorem rpm_steps (BH bx by_:Nat) (kd fr ds tm:Int) (ok:Bool) (ix lt:Int) (ar:Option Addr) (nr cr:Nat) (cm:Int) (sn:ByteArray) (av:Option Addr) (nv cv:Nat) (va:Option Addr) (N vc:Nat) (vb:Option Addr) (M vd:Nat) (rs:List Rc) (vs:List Int) (P1:ByteArray) (P2:Int) (w1:World) (hBH:BH<w1.heap.size) (hBHo:w1.heap[BH]? = some (.cells #[.int .i64 kd,.int .i64 fr,.int .i64 ds,.int .i64 tm,.bool ok,.int .i64 ix,.int .i64 lt,.slice ar nr cr,.int .i64 cm,.string sn,.slice av nv cv] 25 (0,0))) (hbx:bx<w1.heap.size) (hbxo:w1.heap[bx]? = some (.cells #[.int .i64 3,.int .i64 0,.string ⟨#[]⟩,.slice va N vc] 70 (0,0))) (hby:by_<w1.heap.size) (hbyo:w1.heap[by_]? = some (.cells #[.int .i64 3,.int .i64 0,.string ⟨#[]⟩,.slice vb M vd] 70 (0,0))) (hvat:V.At w1 (fun p=>p<w1.heap.size) (listV (vs.map numV)) [.int .i64 3,.int .i64 0,.string ⟨#[]⟩,.slice va N vc]) (hrat:V.At w1 (fun p=>p<w1.heap.size) (listV (rs.map recV)) [.int .i64 3,.int .i64 0,.string ⟨#[]⟩,.slice vb M vd]) (hput:∀ w cs,Below w1.heap.size w1 w→V.At w (fun p=>p<w.heap.size) (msV ⟨kd,fr,ds,tm,ok,ix,lt,rs,cm,sn,vs⟩) cs→Calls Tryz.prog 39 #[.agg cs.toArray] w (fun e w'=>e = .returned (.tuple #[.string P1,.int .i64 P2])∧Below w.heap.size w w')) {a:Act}(hs:a.tmps.size=90) (b1:a.eval (.tmp 1) = .pointer (some ⟨BH,0,none⟩)) (b5:a.eval (.tmp 5) = .pointer (some ⟨bx,0,none⟩)) (b8:a.eval (.tmp 8) = .pointer (some ⟨by_,0,none⟩)) (b4:a.eval (.tmp 4) = .int .i64 (okI ok)):∀ i o,(regOf Tryz.f11 18)[i]? = some o→StepOk Tryz.prog (regOf Tryz.f11 18) a (fun w=>Below w1.heap.size w1 w) (rpmT BH bx by_ kd fr ds tm ok ix lt ar nr cr cm sn av nv cv va N vc vb M vd rs vs P1 P2 w1) rpmD i o:=by
 have hz:∀ t,Nat.blt t 90=true→Nat.blt t a.tmps.size=true:=fun t h=>by rw [hs]; exact h
 have hsz:(regOf Tryz.f11 18).size=35:=by kernel_rfl
 refine of_index 35 hsz ?_
 intro i hii o ho
 match i,hii with
 | 0,_ =>
   have ho1:=opIs ho (p:=.fieldAddr 25 (.tmp 1) 0) (by kernel_rfl)
   have hg:=guardIs ho (p:=none) (by kernel_rfl)
   intro e A w hA hC hp K hk
   have x1:A.eval (.tmp 1) = .pointer (some ⟨BH,0,none⟩):=filled_base hA (by kernel_rfl) b1
   have hw:Region.wanted o (yielded (regOf Tryz.f11 18) A.tmps)=true:=wanted_free hg
   refine step_pure (v:=.pointer (some ⟨BH,0,none⟩)) hk hC hw ?_ rfl
   unfold execOp
   simp only [ho1]
   generalize A.eval=ρ at x1 ⊢
   simp [go_sem,x1]
 | 1,_ =>
   have ho1:=opIs ho (p:=.load 3 (.tmp 57)) (by kernel_rfl)
   have hg:=guardIs ho (p:=none) (by kernel_rfl)
   intro e A w hA hC hp K hk
   have x57:A.eval (.tmp 57) = .pointer (some ⟨BH,0,none⟩):=op_tmp hA hp 57 0 (by kernel_rfl) (by kernel_rfl) (by kernel_rfl) (hz _ rfl)
   have hw:Region.wanted o (yielded (regOf Tryz.f11 18) A.tmps)=true:=wanted_free hg
   have e1:=(Lib.cell_of_heap ((hC.block BH hBH).trans hBHo) 0).trans (show _=some (Value.int .i64 kd) from rfl)
   refine step_pure (v:=.int .i64 kd) hk hC hw ?_ rfl
   unfold execOp
   simp only [ho1]
   generalize A.eval=ρ at x57 ⊢
   simp [go_sem,x57,e1]
 | 2,_ =>
   have ho1:=opIs ho (p:=.call { callee:=(.value (.func 38)),args:=#[(.tmp 58)],argTypes:=#[3] }) (by kernel_rfl)
   have hg:=guardIs ho (p:=none) (by kernel_rfl)
   intro e A w hA hC hp K hk
   have x58:A.eval (.tmp 58) = .int .i64 kd:=op_tmp hA hp 58 1 (by kernel_rfl) (by kernel_rfl) (by kernel_rfl) (hz _ rfl)
   have hw:Region.wanted o (yielded (regOf Tryz.f11 18) A.tmps)=true:=wanted_free hg
   refine step_call (f:=38) (args:=#[.int .i64 kd]) hk hw ?_ ?_
   ·unfold execOp
    simp only [ho1]
    have xf:∀ f,A.eval (.func f) = .func (.func f) #[] #[]:=fun _=>rfl
    generalize A.eval=ρ at x58 xf ⊢
    simp [go_sem,xf,x58]
   ·refine (rnum21_any kd w).mono ?_
    rintro en w' ⟨rfl,hb'⟩
    exact⟨_,rfl,rfl,below_then hC hb' hC.size,fun j u _ _ _ _ h=>rpm_keep BH bx by_ kd fr ds tm ok ix lt ar nr cr cm sn av nv cv va N vc vb M vd rs vs P1 P2 w1 j u w _ hb' h⟩
 | 3,_ =>
   have ho1:=opIs ho (p:=.fieldAddr 25 (.tmp 1) 1) (by kernel_rfl)
   have hg:=guardIs ho (p:=none) (by kernel_rfl)
   intro e A w hA hC hp K hk
   have x1:A.eval (.tmp 1) = .pointer (some ⟨BH,0,none⟩):=filled_base hA (by kernel_rfl) b1
   have hw:Region.wanted o (yielded (regOf Tryz.f11 18) A.tmps)=true:=wanted_free hg
   refine step_pure (v:=.pointer (some ⟨BH,1,none⟩)) hk hC hw ?_ rfl
   unfold execOp
   simp only [ho1]
   generalize A.eval=ρ at x1 ⊢
   simp [go_sem,x1]
 | 4,_ =>
   have ho1:=opIs ho (p:=.load 3 (.tmp 60)) (by kernel_rfl)
   have hg:=guardIs ho (p:=none) (by kernel_rfl)
   intro e A w hA hC hp K hk
   have x60:A.eval (.tmp 60) = .pointer (some ⟨BH,1,none⟩):=op_tmp hA hp 60 3 (by kernel_rfl) (by kernel_rfl) (by kernel_rfl) (hz _ rfl)
   have hw:Region.wanted o (yielded (regOf Tryz.f11 18) A.tmps)=true:=wanted_free hg
   have e1:=(Lib.cell_of_heap ((hC.block BH hBH).trans hBHo) 1).trans (show _=some (Value.int .i64 fr) from rfl)
   refine step_pure (v:=.int .i64 fr) hk hC hw ?_ rfl
   unfold execOp
   simp only [ho1]
   generalize A.eval=ρ at x60 ⊢
   simp [go_sem,x60,e1]
 | 5,_ =>
   have ho1:=opIs ho (p:=.call { callee:=(.value (.func 38)),args:=#[(.tmp 61)],argTypes:=#[3] }) (by kernel_rfl)
   have hg:=guardIs ho (p:=none) (by kernel_rfl)
   intro e A w hA hC hp K hk
   have x61:A.eval (.tmp 61) = .int .i64 fr:=op_tmp hA hp 61 4 (by kernel_rfl) (by kernel_rfl) (by kernel_rfl) (hz _ rfl)
   have hw:Region.wanted o (yielded (regOf Tryz.f11 18) A.tmps)=true:=wanted_free hg
   refine step_call (f:=38) (args:=#[.int .i64 fr]) hk hw ?_ ?_
   ·unfold execOp
    simp only [ho1]
    have xf:∀ f,A.eval (.func f) = .func (.func f) #[] #[]:=fun _=>rfl
    generalize A.eval=ρ at x61 xf ⊢
    simp [go_sem,xf,x61]
   ·refine (rnum21_any fr w).mono ?_
    rintro en w' ⟨rfl,hb'⟩
    exact⟨_,rfl,rfl,below_then hC hb' hC.size,fun j u _ _ _ _ h=>rpm_keep BH bx by_ kd fr ds tm ok ix lt ar nr cr cm sn av nv cv va N vc vb M vd rs vs P1 P2 w1 j u w _ hb' h⟩
 | 6,_ =>
   have ho1:=opIs ho (p:=.fieldAddr 25 (.tmp 1) 2) (by kernel_rfl)
   have hg:=guardIs ho (p:=none) (by kernel_rfl)
   intro e A w hA hC hp K hk
   have x1:A.eval (.tmp 1) = .pointer (some ⟨BH,0,none⟩):=filled_base hA (by kernel_rfl) b1
   have hw:Region.wanted o (yielded (regOf Tryz.f11 18) A.tmps)=true:=wanted_free hg
   refine step_pure (v:=.pointer (some ⟨BH,2,none⟩)) hk hC hw ?_ rfl
   unfold execOp
   simp only [ho1]
   generalize A.eval=ρ at x1 ⊢
   simp [go_sem,x1]
 | 7,_ =>
   have ho1:=opIs ho (p:=.load 3 (.tmp 63)) (by kernel_rfl)
   have hg:=guardIs ho (p:=none) (by kernel_rfl)
   intro e A w hA hC hp K hk
   have x63:A.eval (.tmp 63) = .pointer (some ⟨BH,2,none⟩):=op_tmp hA hp 63 6 (by kernel_rfl) (by kernel_rfl) (by kernel_rfl) (hz _ rfl)
   have hw:Region.wanted o (yielded (regOf Tryz.f11 18) A.tmps)=true:=wanted_free hg
   have e1:=(Lib.cell_of_heap ((hC.block BH hBH).trans hBHo) 2).trans (show _=some (Value.int .i64 ds) from rfl)
   refine step_pure (v:=.int .i64 ds) hk hC hw ?_ rfl
   unfold execOp
   simp only [ho1]
   generalize A.eval=ρ at x63 ⊢
   simp [go_sem,x63,e1]
 | 8,_ =>
   have ho1:=opIs ho (p:=.call { callee:=(.value (.func 38)),args:=#[(.tmp 64)],argTypes:=#[3] }) (by kernel_rfl)
   have hg:=guardIs ho (p:=none) (by kernel_rfl)
   intro e A w hA hC hp K hk
   have x64:A.eval (.tmp 64) = .int .i64 ds:=op_tmp hA hp 64 7 (by kernel_rfl) (by kernel_rfl) (by kernel_rfl) (hz _ rfl)
   have hw:Region.wanted o (yielded (regOf Tryz.f11 18) A.tmps)=true:=wanted_free hg
   refine step_call (f:=38) (args:=#[.int .i64 ds]) hk hw ?_ ?_
   ·unfold execOp
    simp only [ho1]
    have xf:∀ f,A.eval (.func f) = .func (.func f) #[] #[]:=fun _=>rfl
    generalize A.eval=ρ at x64 xf ⊢
    simp [go_sem,xf,x64]
   ·refine (rnum21_any ds w).mono ?_
    rintro en w' ⟨rfl,hb'⟩
    exact⟨_,rfl,rfl,below_then hC hb' hC.size,fun j u _ _ _ _ h=>rpm_keep BH bx by_ kd fr ds tm ok ix lt ar nr cr cm sn av nv cv va N vc vb M vd rs vs P1 P2 w1 j u w _ hb' h⟩
 | 9,_ =>
   have ho1:=opIs ho (p:=.fieldAddr 25 (.tmp 1) 3) (by kernel_rfl)
   have hg:=guardIs ho (p:=none) (by kernel_rfl)
   intro e A w hA hC hp K hk
   have x1:A.eval (.tmp 1) = .pointer (some ⟨BH,0,none⟩):=filled_base hA (by kernel_rfl) b1
   have hw:Region.wanted o (yielded (regOf Tryz.f11 18) A.tmps)=true:=wanted_free hg
   refine step_pure (v:=.pointer (some ⟨BH,3,none⟩)) hk hC hw ?_ rfl
   unfold execOp
   simp only [ho1]
   generalize A.eval=ρ at x1 ⊢
   simp [go_sem,x1]
 | 10,_ =>
   have ho1:=opIs ho (p:=.load 3 (.tmp 66)) (by kernel_rfl)
   have hg:=guardIs ho (p:=none) (by kernel_rfl)
   intro e A w hA hC hp K hk
   have x66:A.eval (.tmp 66) = .pointer (some ⟨BH,3,none⟩):=op_tmp hA hp 66 9 (by kernel_rfl) (by kernel_rfl) (by kernel_rfl) (hz _ rfl)
   have hw:Region.wanted o (yielded (regOf Tryz.f11 18) A.tmps)=true:=wanted_free hg
   have e1:=(Lib.cell_of_heap ((hC.block BH hBH).trans hBHo) 3).trans (show _=some (Value.int .i64 tm) from rfl)
   refine step_pure (v:=.int .i64 tm) hk hC hw ?_ rfl
   unfold execOp
   simp only [ho1]
   generalize A.eval=ρ at x66 ⊢
   simp [go_sem,x66,e1]
 | 11,_ =>
   have ho1:=opIs ho (p:=.call { callee:=(.value (.func 38)),args:=#[(.tmp 67)],argTypes:=#[3] }) (by kernel_rfl)
   have hg:=guardIs ho (p:=none) (by kernel_rfl)
   intro e A w hA hC hp K hk
   have x67:A.eval (.tmp 67) = .int .i64 tm:=op_tmp hA hp 67 10 (by kernel_rfl) (by kernel_rfl) (by kernel_rfl) (hz _ rfl)
   have hw:Region.wanted o (yielded (regOf Tryz.f11 18) A.tmps)=true:=wanted_free hg
   refine step_call (f:=38) (args:=#[.int .i64 tm]) hk hw ?_ ?_
   ·unfold execOp
    simp only [ho1]
    have xf:∀ f,A.eval (.func f) = .func (.func f) #[] #[]:=fun _=>rfl
    generalize A.eval=ρ at x67 xf ⊢
    simp [go_sem,xf,x67]
   ·refine (rnum21_any tm w).mono ?_
    rintro en w' ⟨rfl,hb'⟩
    exact⟨_,rfl,rfl,below_then hC hb' hC.size,fun j u _ _ _ _ h=>rpm_keep BH bx by_ kd fr ds tm ok ix lt ar nr cr cm sn av nv cv va N vc vb M vd rs vs P1 P2 w1 j u w _ hb' h⟩
 | 12,_ =>
   have ho1:=opIs ho (p:=.move (.tmp 4)) (by kernel_rfl)
   have hg:=guardIs ho (p:=none) (by kernel_rfl)
   intro e A w hA hC hp K hk
   have x4:A.eval (.tmp 4) = .int .i64 (okI ok):=filled_base hA (by kernel_rfl) b4
   have hw:Region.wanted o (yielded (regOf Tryz.f11 18) A.tmps)=true:=wanted_free hg
   exact step_pure hk hC hw (run_move ho1 x4 w) rfl
 | 13,_ =>
   have ho1:=opIs ho (p:=.call { callee:=(.value (.func 38)),args:=#[(.tmp 69)],argTypes:=#[3] }) (by kernel_rfl)
   have hg:=guardIs ho (p:=none) (by kernel_rfl)
   intro e A w hA hC hp K hk
   have x69:A.eval (.tmp 69) = .int .i64 (okI ok):=op_tmp hA hp 69 12 (by kernel_rfl) (by kernel_rfl) (by kernel_rfl) (hz _ rfl)
   have hw:Region.wanted o (yielded (regOf Tryz.f11 18) A.tmps)=true:=wanted_free hg
   refine step_call (f:=38) (args:=#[.int .i64 (okI ok)]) hk hw ?_ ?_
   ·unfold execOp
    simp only [ho1]
    have xf:∀ f,A.eval (.func f) = .func (.func f) #[] #[]:=fun _=>rfl
    generalize A.eval=ρ at x69 xf ⊢
    simp [go_sem,xf,x69]
   ·refine (rnum21_any (okI ok) w).mono ?_
    rintro en w' ⟨rfl,hb'⟩
    exact⟨_,rfl,rfl,below_then hC hb' hC.size,fun j u _ _ _ _ h=>rpm_keep BH bx by_ kd fr ds tm ok ix lt ar nr cr cm sn av nv cv va N vc vb M vd rs vs P1 P2 w1 j u w _ hb' h⟩
 | 14,_ =>
   have ho1:=opIs ho (p:=.fieldAddr 25 (.tmp 1) 5) (by kernel_rfl)
   have hg:=guardIs ho (p:=none) (by kernel_rfl)
   intro e A w hA hC hp K hk
   have x1:A.eval (.tmp 1) = .pointer (some ⟨BH,0,none⟩):=filled_base hA (by kernel_rfl) b1
   have hw:Region.wanted o (yielded (regOf Tryz.f11 18) A.tmps)=true:=wanted_free hg
   refine step_pure (v:=.pointer (some ⟨BH,5,none⟩)) hk hC hw ?_ rfl
   unfold execOp
   simp only [ho1]
   generalize A.eval=ρ at x1 ⊢
   simp [go_sem,x1]
 | 15,_ =>
   have ho1:=opIs ho (p:=.load 3 (.tmp 71)) (by kernel_rfl)
   have hg:=guardIs ho (p:=none) (by kernel_rfl)
   intro e A w hA hC hp K hk
   have x71:A.eval (.tmp 71) = .pointer (some ⟨BH,5,none⟩):=op_tmp hA hp 71 14 (by kernel_rfl) (by kernel_rfl) (by kernel_rfl) (hz _ rfl)
   have hw:Region.wanted o (yielded (regOf Tryz.f11 18) A.tmps)=true:=wanted_free hg
   have e1:=(Lib.cell_of_heap ((hC.block BH hBH).trans hBHo) 5).trans (show _=some (Value.int .i64 ix) from rfl)
   refine step_pure (v:=.int .i64 ix) hk hC hw ?_ rfl
   unfold execOp
   simp only [ho1]
   generalize A.eval=ρ at x71 ⊢
   simp [go_sem,x71,e1]
 | 16,_ =>
   have ho1:=opIs ho (p:=.call { callee:=(.value (.func 38)),args:=#[(.tmp 72)],argTypes:=#[3] }) (by kernel_rfl)
   have hg:=guardIs ho (p:=none) (by kernel_rfl)
   intro e A w hA hC hp K hk
   have x72:A.eval (.tmp 72) = .int .i64 ix:=op_tmp hA hp 72 15 (by kernel_rfl) (by kernel_rfl) (by kernel_rfl) (hz _ rfl)
   have hw:Region.wanted o (yielded (regOf Tryz.f11 18) A.tmps)=true:=wanted_free hg
   refine step_call (f:=38) (args:=#[.int .i64 ix]) hk hw ?_ ?_
   ·unfold execOp
    simp only [ho1]
    have xf:∀ f,A.eval (.func f) = .func (.func f) #[] #[]:=fun _=>rfl
    generalize A.eval=ρ at x72 xf ⊢
    simp [go_sem,xf,x72]
   ·refine (rnum21_any ix w).mono ?_
    rintro en w' ⟨rfl,hb'⟩
    exact⟨_,rfl,rfl,below_then hC hb' hC.size,fun j u _ _ _ _ h=>rpm_keep BH bx by_ kd fr ds tm ok ix lt ar nr cr cm sn av nv cv va N vc vb M vd rs vs P1 P2 w1 j u w _ hb' h⟩
 | 17,_ =>
   have ho1:=opIs ho (p:=.fieldAddr 25 (.tmp 1) 6) (by kernel_rfl)
   have hg:=guardIs ho (p:=none) (by kernel_rfl)
   intro e A w hA hC hp K hk
   have x1:A.eval (.tmp 1) = .pointer (some ⟨BH,0,none⟩):=filled_base hA (by kernel_rfl) b1
   have hw:Region.wanted o (yielded (regOf Tryz.f11 18) A.tmps)=true:=wanted_free hg
   refine step_pure (v:=.pointer (some ⟨BH,6,none⟩)) hk hC hw ?_ rfl
   unfold execOp
   simp only [ho1]
   generalize A.eval=ρ at x1 ⊢
   simp [go_sem,x1]
 | 18,_ =>
   have ho1:=opIs ho (p:=.load 3 (.tmp 74)) (by kernel_rfl)
   have hg:=guardIs ho (p:=none) (by kernel_rfl)
   intro e A w hA hC hp K hk
   have x74:A.eval (.tmp 74) = .pointer (some ⟨BH,6,none⟩):=op_tmp hA hp 74 17 (by kernel_rfl) (by kernel_rfl) (by kernel_rfl) (hz _ rfl)
   have hw:Region.wanted o (yielded (regOf Tryz.f11 18) A.tmps)=true:=wanted_free hg
   have e1:=(Lib.cell_of_heap ((hC.block BH hBH).trans hBHo) 6).trans (show _=some (Value.int .i64 lt) from rfl)
   refine step_pure (v:=.int .i64 lt) hk hC hw ?_ rfl
   unfold execOp
   simp only [ho1]
   generalize A.eval=ρ at x74 ⊢
   simp [go_sem,x74,e1]
 | 19,_ =>
   have ho1:=opIs ho (p:=.call { callee:=(.value (.func 38)),args:=#[(.tmp 75)],argTypes:=#[3] }) (by kernel_rfl)
   have hg:=guardIs ho (p:=none) (by kernel_rfl)
   intro e A w hA hC hp K hk
   have x75:A.eval (.tmp 75) = .int .i64 lt:=op_tmp hA hp 75 18 (by kernel_rfl) (by kernel_rfl) (by kernel_rfl) (hz _ rfl)
   have hw:Region.wanted o (yielded (regOf Tryz.f11 18) A.tmps)=true:=wanted_free hg
   refine step_call (f:=38) (args:=#[.int .i64 lt]) hk hw ?_ ?_
   ·unfold execOp
    simp only [ho1]
    have xf:∀ f,A.eval (.func f) = .func (.func f) #[] #[]:=fun _=>rfl
    generalize A.eval=ρ at x75 xf ⊢
    simp [go_sem,xf,x75]
   ·refine (rnum21_any lt w).mono ?_
    rintro en w' ⟨rfl,hb'⟩
    exact⟨_,rfl,rfl,below_then hC hb' hC.size,fun j u _ _ _ _ h=>rpm_keep BH bx by_ kd fr ds tm ok ix lt ar nr cr cm sn av nv cv va N vc vb M vd rs vs P1 P2 w1 j u w _ hb' h⟩
 | 20,_ =>
   have ho1:=opIs ho (p:=.fieldAddr 25 (.tmp 1) 8) (by kernel_rfl)
   have hg:=guardIs ho (p:=none) (by kernel_rfl)
   intro e A w hA hC hp K hk
   have x1:A.eval (.tmp 1) = .pointer (some ⟨BH,0,none⟩):=filled_base hA (by kernel_rfl) b1
   have hw:Region.wanted o (yielded (regOf Tryz.f11 18) A.tmps)=true:=wanted_free hg
   refine step_pure (v:=.pointer (some ⟨BH,8,none⟩)) hk hC hw ?_ rfl
   unfold execOp
   simp only [ho1]
   generalize A.eval=ρ at x1 ⊢
   simp [go_sem,x1]
 | 21,_ =>
   have ho1:=opIs ho (p:=.load 3 (.tmp 77)) (by kernel_rfl)
   have hg:=guardIs ho (p:=none) (by kernel_rfl)
   intro e A w hA hC hp K hk
   have x77:A.eval (.tmp 77) = .pointer (some ⟨BH,8,none⟩):=op_tmp hA hp 77 20 (by kernel_rfl) (by kernel_rfl) (by kernel_rfl) (hz _ rfl)
   have hw:Region.wanted o (yielded (regOf Tryz.f11 18) A.tmps)=true:=wanted_free hg
   have e1:=(Lib.cell_of_heap ((hC.block BH hBH).trans hBHo) 8).trans (show _=some (Value.int .i64 cm) from rfl)
   refine step_pure (v:=.int .i64 cm) hk hC hw ?_ rfl
   unfold execOp
   simp only [ho1]
   generalize A.eval=ρ at x77 ⊢
   simp [go_sem,x77,e1]
 | 22,_ =>
   have ho1:=opIs ho (p:=.call { callee:=(.value (.func 38)),args:=#[(.tmp 78)],argTypes:=#[3] }) (by kernel_rfl)
   have hg:=guardIs ho (p:=none) (by kernel_rfl)
   intro e A w hA hC hp K hk
   have x78:A.eval (.tmp 78) = .int .i64 cm:=op_tmp hA hp 78 21 (by kernel_rfl) (by kernel_rfl) (by kernel_rfl) (hz _ rfl)
   have hw:Region.wanted o (yielded (regOf Tryz.f11 18) A.tmps)=true:=wanted_free hg
   refine step_call (f:=38) (args:=#[.int .i64 cm]) hk hw ?_ ?_
   ·unfold execOp
    simp only [ho1]
    have xf:∀ f,A.eval (.func f) = .func (.func f) #[] #[]:=fun _=>rfl
    generalize A.eval=ρ at x78 xf ⊢
    simp [go_sem,xf,x78]
   ·refine (rnum21_any cm w).mono ?_
    rintro en w' ⟨rfl,hb'⟩
    exact⟨_,rfl,rfl,below_then hC hb' hC.size,fun j u _ _ _ _ h=>rpm_keep BH bx by_ kd fr ds tm ok ix lt ar nr cr cm sn av nv cv va N vc vb M vd rs vs P1 P2 w1 j u w _ hb' h⟩
 | 23,_ =>
   have ho1:=opIs ho (p:=.fieldAddr 25 (.tmp 1) 9) (by kernel_rfl)
   have hg:=guardIs ho (p:=none) (by kernel_rfl)
   intro e A w hA hC hp K hk
   have x1:A.eval (.tmp 1) = .pointer (some ⟨BH,0,none⟩):=filled_base hA (by kernel_rfl) b1
   have hw:Region.wanted o (yielded (regOf Tryz.f11 18) A.tmps)=true:=wanted_free hg
   refine step_pure (v:=.pointer (some ⟨BH,9,none⟩)) hk hC hw ?_ rfl
   unfold execOp
   simp only [ho1]
   generalize A.eval=ρ at x1 ⊢
   simp [go_sem,x1]
 | 24,_ =>
   have ho1:=opIs ho (p:=.load 9 (.tmp 80)) (by kernel_rfl)
   have hg:=guardIs ho (p:=none) (by kernel_rfl)
   intro e A w hA hC hp K hk
   have x80:A.eval (.tmp 80) = .pointer (some ⟨BH,9,none⟩):=op_tmp hA hp 80 23 (by kernel_rfl) (by kernel_rfl) (by kernel_rfl) (hz _ rfl)
   have hw:Region.wanted o (yielded (regOf Tryz.f11 18) A.tmps)=true:=wanted_free hg
   have e1:=(Lib.cell_of_heap ((hC.block BH hBH).trans hBHo) 9).trans (show _=some (Value.string sn) from rfl)
   refine step_pure (v:=.string sn) hk hC hw ?_ rfl
   unfold execOp
   simp only [ho1]
   generalize A.eval=ρ at x80 ⊢
   simp [go_sem,x80,e1]
 | 25,_ =>
   have ho1:=opIs ho (p:=.build 70 #[(0,(.const (.int .i64 2))),(2,(.tmp 81))]) (by kernel_rfl)
   have hg:=guardIs ho (p:=none) (by kernel_rfl)
   intro e A w hA hC hp K hk
   have x81:A.eval (.tmp 81) = .string sn:=op_tmp hA hp 81 24 (by kernel_rfl) (by kernel_rfl) (by kernel_rfl) (hz _ rfl)
   have hw:Region.wanted o (yielded (regOf Tryz.f11 18) A.tmps)=true:=wanted_free hg
   refine step_pure (v:=.agg #[.int .i64 2,.int .i64 0,.string sn,.slice none 0 0]) hk hC hw ?_ rfl
   unfold execOp
   simp only [ho1]
   have xc:∀ v,A.eval (.const v)=v:=fun _=>rfl
   generalize A.eval=ρ at x81 xc ⊢
   simp [go_sem,x81,xc]
 | 26,_ =>
   have ho1:=opIs ho (p:=.load 70 (.tmp 5)) (by kernel_rfl)
   have hg:=guardIs ho (p:=none) (by kernel_rfl)
   intro e A w hA hC hp K hk
   have x5:A.eval (.tmp 5) = .pointer (some ⟨bx,0,none⟩):=filled_base hA (by kernel_rfl) b5
   have hw:Region.wanted o (yielded (regOf Tryz.f11 18) A.tmps)=true:=wanted_free hg
   have e0:=(Lib.cell_of_heap ((hC.block bx hbx).trans hbxo) 0).trans (show _=some (Value.int .i64 3) from rfl)
   have e1:=(Lib.cell_of_heap ((hC.block bx hbx).trans hbxo) 1).trans (show _=some (Value.int .i64 0) from rfl)
   have e2:=(Lib.cell_of_heap ((hC.block bx hbx).trans hbxo) 2).trans (show _=some (Value.string ⟨#[]⟩) from rfl)
   have e3:=(Lib.cell_of_heap ((hC.block bx hbx).trans hbxo) 3).trans (show _=some (Value.slice va N vc) from rfl)
   refine step_pure (v:=.agg #[.int .i64 3,.int .i64 0,.string ⟨#[]⟩,.slice va N vc]) hk hC hw ?_ rfl
   unfold execOp
   simp only [ho1]
   generalize A.eval=ρ at x5 ⊢
   simp [go_sem,x5,e0,e1,e2,e3]
 | 27,_ =>
   have ho1:=opIs ho (p:=.load 70 (.tmp 8)) (by kernel_rfl)
   have hg:=guardIs ho (p:=none) (by kernel_rfl)
   intro e A w hA hC hp K hk
   have x8:A.eval (.tmp 8) = .pointer (some ⟨by_,0,none⟩):=filled_base hA (by kernel_rfl) b8
   have hw:Region.wanted o (yielded (regOf Tryz.f11 18) A.tmps)=true:=wanted_free hg
   have e0:=(Lib.cell_of_heap ((hC.block by_ hby).trans hbyo) 0).trans (show _=some (Value.int .i64 3) from rfl)
   have e1:=(Lib.cell_of_heap ((hC.block by_ hby).trans hbyo) 1).trans (show _=some (Value.int .i64 0) from rfl)
   have e2:=(Lib.cell_of_heap ((hC.block by_ hby).trans hbyo) 2).trans (show _=some (Value.string ⟨#[]⟩) from rfl)
   have e3:=(Lib.cell_of_heap ((hC.block by_ hby).trans hbyo) 3).trans (show _=some (Value.slice vb M vd) from rfl)
   refine step_pure (v:=.agg #[.int .i64 3,.int .i64 0,.string ⟨#[]⟩,.slice vb M vd]) hk hC hw ?_ rfl
   unfold execOp
   simp only [ho1]
   generalize A.eval=ρ at x8 ⊢
   simp [go_sem,x8,e0,e1,e2,e3]
 | 28,_ =>
   have ho1:=opIs ho (p:=.buildSlice 68 11 #[(0,(.tmp 59)),(1,(.tmp 62)),(2,(.tmp 65)),(3,(.tmp 68)),(4,(.tmp 70)),(5,(.tmp 73)),(6,(.tmp 76)),(7,(.tmp 79)),(8,(.tmp 82)),(9,(.tmp 83)),(10,(.tmp 84))]) (by kernel_rfl)
   have hg:=guardIs ho (p:=none) (by kernel_rfl)
   intro e A w hA hC hp K hk
   have x59:A.eval (.tmp 59) = .agg #[.int .i64 1,.int .i64 kd,.string ⟨#[]⟩,.slice none 0 0]:=op_tmp hA hp 59 2 (by kernel_rfl) (by kernel_rfl) (by kernel_rfl) (hz _ rfl)
   have x62:A.eval (.tmp 62) = .agg #[.int .i64 1,.int .i64 fr,.string ⟨#[]⟩,.slice none 0 0]:=op_tmp hA hp 62 5 (by kernel_rfl) (by kernel_rfl) (by kernel_rfl) (hz _ rfl)
   have x65:A.eval (.tmp 65) = .agg #[.int .i64 1,.int .i64 ds,.string ⟨#[]⟩,.slice none 0 0]:=op_tmp hA hp 65 8 (by kernel_rfl) (by kernel_rfl) (by kernel_rfl) (hz _ rfl)
   have x68:A.eval (.tmp 68) = .agg #[.int .i64 1,.int .i64 tm,.string ⟨#[]⟩,.slice none 0 0]:=op_tmp hA hp 68 11 (by kernel_rfl) (by kernel_rfl) (by kernel_rfl) (hz _ rfl)
   have x70:A.eval (.tmp 70) = .agg #[.int .i64 1,.int .i64 (okI ok),.string ⟨#[]⟩,.slice none 0 0]:=op_tmp hA hp 70 13 (by kernel_rfl) (by kernel_rfl) (by kernel_rfl) (hz _ rfl)
   have x73:A.eval (.tmp 73) = .agg #[.int .i64 1,.int .i64 ix,.string ⟨#[]⟩,.slice none 0 0]:=op_tmp hA hp 73 16 (by kernel_rfl) (by kernel_rfl) (by kernel_rfl) (hz _ rfl)
   have x76:A.eval (.tmp 76) = .agg #[.int .i64 1,.int .i64 lt,.string ⟨#[]⟩,.slice none 0 0]:=op_tmp hA hp 76 19 (by kernel_rfl) (by kernel_rfl) (by kernel_rfl) (hz _ rfl)
   have x79:A.eval (.tmp 79) = .agg #[.int .i64 1,.int .i64 cm,.string ⟨#[]⟩,.slice none 0 0]:=op_tmp hA hp 79 22 (by kernel_rfl) (by kernel_rfl) (by kernel_rfl) (hz _ rfl)
   have x82:A.eval (.tmp 82) = .agg #[.int .i64 2,.int .i64 0,.string sn,.slice none 0 0]:=op_tmp hA hp 82 25 (by kernel_rfl) (by kernel_rfl) (by kernel_rfl) (hz _ rfl)
   have x83:A.eval (.tmp 83) = .agg #[.int .i64 3,.int .i64 0,.string ⟨#[]⟩,.slice va N vc]:=op_tmp hA hp 83 26 (by kernel_rfl) (by kernel_rfl) (by kernel_rfl) (hz _ rfl)
   have x84:A.eval (.tmp 84) = .agg #[.int .i64 3,.int .i64 0,.string ⟨#[]⟩,.slice vb M vd]:=op_tmp hA hp 84 27 (by kernel_rfl) (by kernel_rfl) (by kernel_rfl) (hz _ rfl)
   have hw:Region.wanted o (yielded (regOf Tryz.f11 18) A.tmps)=true:=wanted_free hg
   refine step_value (v:=.slice (some ⟨w.heap.size,0,none⟩) 11 11) (w':=w.alloc (.cells #[.int .i64 1,.int .i64 kd,.string ⟨#[]⟩,.slice none 0 0,.int .i64 1,.int .i64 fr,.string ⟨#[]⟩,.slice none 0 0,.int .i64 1,.int .i64 ds,.string ⟨#[]⟩,.slice none 0 0,.int .i64 1,.int .i64 tm,.string ⟨#[]⟩,.slice none 0 0,.int .i64 1,.int .i64 (okI ok),.string ⟨#[]⟩,.slice none 0 0,.int .i64 1,.int .i64 ix,.string ⟨#[]⟩,.slice none 0 0,.int .i64 1,.int .i64 lt,.string ⟨#[]⟩,.slice none 0 0,.int .i64 1,.int .i64 cm,.string ⟨#[]⟩,.slice none 0 0,.int .i64 2,.int .i64 0,.string sn,.slice none 0 0,.int .i64 3,.int .i64 0,.string ⟨#[]⟩,.slice va N vc,.int .i64 3,.int .i64 0,.string ⟨#[]⟩,.slice vb M vd] 70)) hk hw ?_ ?_ ?_ ?_
   ·unfold execOp
    simp only [ho1]
    generalize A.eval=ρ at x59 x62 x65 x68 x70 x73 x76 x79 x82 x83 x84 ⊢
    simp [go_sem,x59,x62,x65,x68,x70,x73,x76,x79,x82,x83,x84]
   ·exact⟨w.heap.size,rfl,hC.size,heap_alloc_new w _⟩
   ·exact hC.alloc hC.size _
   ·intro j u _ _ _ _ h
    exact rpm_keep BH bx by_ kd fr ds tm ok ix lt ar nr cr cm sn av nv cv va N vc vb M vd rs vs P1 P2 w1 j u w _ ((Below.refl _ w).alloc (Nat.le_refl _) _) h
 | 29,_ =>
   have ho1:=opIs ho (p:=.build 70 #[(0,(.const (.int .i64 3))),(3,(.tmp 85))]) (by kernel_rfl)
   have hg:=guardIs ho (p:=none) (by kernel_rfl)
   intro e A w hA hC hp K hk
   have x85:=op_tmp hA hp 85 28 (by kernel_rfl) (by kernel_rfl) (by kernel_rfl) (hz _ rfl)
   have hw:Region.wanted o (yielded (regOf Tryz.f11 18) A.tmps)=true:=wanted_free hg
   obtain⟨c,x85,h2,h3⟩:=x85
   refine step_pure (v:=.agg #[.int .i64 3,.int .i64 0,.string ⟨#[]⟩,.slice (some ⟨c,0,none⟩) 11 11]) hk hC hw ?_ ⟨c,rfl,h2,h3⟩
   unfold execOp
   simp only [ho1]
   have xc:∀ v,A.eval (.const v)=v:=fun _=>rfl
   generalize A.eval=ρ at x85 xc ⊢
   simp [go_sem,x85,xc]
 | 30,_ =>
   have ho1:=opIs ho (p:=.call { callee:=(.value (.func 39)),args:=#[(.tmp 86)],argTypes:=#[70] }) (by kernel_rfl)
   have hg:=guardIs ho (p:=none) (by kernel_rfl)
   intro e A w hA hC hp K hk
   have x86:=op_tmp hA hp 86 29 (by kernel_rfl) (by kernel_rfl) (by kernel_rfl) (hz _ rfl)
   have hw:Region.wanted o (yielded (regOf Tryz.f11 18) A.tmps)=true:=wanted_free hg
   obtain⟨c,x86,h2,h3⟩:=x86
   have hat:V.At w (fun p=>p<w.heap.size) (msV ⟨kd,fr,ds,tm,ok,ix,lt,rs,cm,sn,vs⟩) [.int .i64 3,.int .i64 0,.string ⟨#[]⟩,.slice (some ⟨c,0,none⟩) 11 11]:=by
    have g1:=V.At.move (w':=w) (T:=fun p=>p<w.heap.size) (fun p (hp:p<w1.heap.size)=>Nat.lt_of_lt_of_le hp hC.size) (fun p hp=>hC.block p hp) _ _ hvat
    have g2:=V.At.move (w':=w) (T:=fun p=>p<w.heap.size) (fun p (hp:p<w1.heap.size)=>Nat.lt_of_lt_of_le hp hC.size) (fun p hp=>hC.block p hp) _ _ hrat
    have hrow:=((((((((((RowOf.nil.snoc (numV_at w (fun p=>p<w.heap.size) kd)).snoc (numV_at w (fun p=>p<w.heap.size) fr)).snoc (numV_at w (fun p=>p<w.heap.size) ds)).snoc (numV_at w (fun p=>p<w.heap.size) tm)).snoc (numV_at w (fun p=>p<w.heap.size) (okI ok))).snoc (numV_at w (fun p=>p<w.heap.size) ix)).snoc (numV_at w (fun p=>p<w.heap.size) lt)).snoc (numV_at w (fun p=>p<w.heap.size) cm)).snoc (textV_at w _ sn)).snoc g1).snoc g2
    exact listV_new (lt_of_block h3) hrow h3 rfl
   refine step_call (f:=39) (args:=#[.agg #[.int .i64 3,.int .i64 0,.string ⟨#[]⟩,.slice (some ⟨c,0,none⟩) 11 11]]) hk hw ?_ ?_
   ·unfold execOp
    simp only [ho1]
    have xf:∀ f,A.eval (.func f) = .func (.func f) #[] #[]:=fun _=>rfl
    generalize A.eval=ρ at x86 xf ⊢
    simp [go_sem,xf,x86]
   ·refine (hput w _ hC hat).mono ?_
    rintro en w' ⟨rfl,hb'⟩
    exact⟨_,rfl,rfl,below_then hC hb' hC.size,fun j u _ _ _ _ h=>rpm_keep BH bx by_ kd fr ds tm ok ix lt ar nr cr cm sn av nv cv va N vc vb M vd rs vs P1 P2 w1 j u w _ hb' h⟩
 | 31,_ =>
   have ho1:=opIs ho (p:=.extract (.tmp 87) 0) (by kernel_rfl)
   have hg:=guardIs ho (p:=none) (by kernel_rfl)
   intro e A w hA hC hp K hk
   have x87:A.eval (.tmp 87) = .tuple #[.string P1,.int .i64 P2]:=op_tmp hA hp 87 30 (by kernel_rfl) (by kernel_rfl) (by kernel_rfl) (hz _ rfl)
   have hw:Region.wanted o (yielded (regOf Tryz.f11 18) A.tmps)=true:=wanted_free hg
   exact step_pure hk hC hw (run_extract ho1 x87 rfl w) rfl
 | 32,_ =>
   have ho1:=opIs ho (p:=.extract (.tmp 87) 1) (by kernel_rfl)
   have hg:=guardIs ho (p:=none) (by kernel_rfl)
   intro e A w hA hC hp K hk
   have x87:A.eval (.tmp 87) = .tuple #[.string P1,.int .i64 P2]:=op_tmp hA hp 87 30 (by kernel_rfl) (by kernel_rfl) (by kernel_rfl) (hz _ rfl)
   have hw:Region.wanted o (yielded (regOf Tryz.f11 18) A.tmps)=true:=wanted_free hg
   exact step_pure hk hC hw (run_extract ho1 x87 rfl w) rfl
 | 33,_ =>
   have ho1:=opIs ho (p:=.assign (.tmp 88)) (by kernel_rfl)
   have hg:=guardIs ho (p:=none) (by kernel_rfl)
   intro e A w hA hC hp K hk
   have x88:A.eval (.tmp 88) = .string P1:=op_tmp hA hp 88 31 (by kernel_rfl) (by kernel_rfl) (by kernel_rfl) (hz _ rfl)
   have hw:Region.wanted o (yielded (regOf Tryz.f11 18) A.tmps)=true:=wanted_free hg
   exact step_pure hk hC hw (run_assign ho1 x88 w) rfl
 | 34,_ =>
   have ho1:=opIs ho (p:=.assign (.tmp 89)) (by kernel_rfl)
   have hg:=guardIs ho (p:=none) (by kernel_rfl)
   intro e A w hA hC hp K hk
   have x89:A.eval (.tmp 89) = .int .i64 P2:=op_tmp hA hp 89 32 (by kernel_rfl) (by kernel_rfl) (by kernel_rfl) (hz _ rfl)
   have hw:Region.wanted o (yielded (regOf Tryz.f11 18) A.tmps)=true:=wanted_free hg
   exact step_pure hk hC hw (run_assign ho1 x89 w) rfl
 | _+35,h=>exact absurd h (by omega)
end Go.Proofs.YtlpgbmaoenncjaaGreatDoor

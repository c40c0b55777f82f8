/-
  The walks of wal.num, wal.records, and of the reference's: a list value of records; at most 200 of them. (Written by wip/mkwv.py.)
-/
import Derived.Test.YtlpgbmaoenncjaaGreatDoorWkA
namespace Go.Proofs.YtlpgbmaoenncjaaGreatDoor
open Go.RowKit
set_option linter.unusedVariables false
theorem wnum_any (n:Int) (w:World):Calls Tryz.prog 54 #[.int .i64 n] w (fun e w'=>e = .returned (.agg #[.int .i64 1,.int .i64 n,.string ⟨#[]⟩,.slice none 0 0])∧Below w.heap.size w w'):=by
 go_enter Tryz.func54,Tryz.ntmps54
 go_wp2_with fail
 refine bodyPost_ret (v:=.agg #[.int .i64 1,.int .i64 n,.string ⟨#[]⟩,.slice none 0 0]) ?_ rfl ?_
 ·exact results_cell_row (p:=2) rfl _ _ w.heap.size 70 _ (0,0) _ rfl (heap_alloc_new w _) Tryz.underlying70 rfl (by kernel_rfl)
 ·exact⟨rfl,(Below.refl _ w).alloc (Nat.le_refl _) _⟩
theorem rnum14_any (n:Int) (w:World):Calls Tryz.prog 108 #[.int .i64 n] w (fun e w'=>e = .returned (.agg #[.int .i64 1,.int .i64 n,.string ⟨#[]⟩,.slice none 0 0])∧Below w.heap.size w w'):=by
 go_enter Tryz.func108,Tryz.ntmps108
 go_wp2_with fail
 refine bodyPost_ret (v:=.agg #[.int .i64 1,.int .i64 n,.string ⟨#[]⟩,.slice none 0 0]) ?_ rfl ?_
 ·exact results_cell_row (p:=2) rfl _ _ w.heap.size 70 _ (0,0) _ rfl (heap_alloc_new w _) Tryz.underlying70 rfl (by kernel_rfl)
 ·exact⟨rfl,(Below.refl _ w).alloc (Nat.le_refl _) _⟩
def wrrT (base bx BR:Nat) (rt rk:Int) (rd:ByteArray) (va:Option Addr) (vc:Nat) (acc:List V) (cells:List Value) (w1:World):Nat→Value→World→Prop
 | 0,v,w=>v = .pointer (some ⟨bx,3,none⟩)
 | 1,v,w=>v = .slice va acc.length vc
 | 2,v,w=>v = .pointer (some ⟨BR,0,none⟩)
 | 3,v,w=>v = .int .i64 rt
 | 4,v,w=>v = .agg #[.int .i64 1,.int .i64 rt,.string ⟨#[]⟩,.slice none 0 0]
 | 5,v,w=>v = .pointer (some ⟨BR,1,none⟩)
 | 6,v,w=>v = .int .i64 rk
 | 7,v,w=>v = .agg #[.int .i64 1,.int .i64 rk,.string ⟨#[]⟩,.slice none 0 0]
 | 8,v,w=>v = .pointer (some ⟨BR,2,none⟩)
 | 9,v,w=>v = .string rd
 | 10,v,w=>v = .agg #[.int .i64 2,.int .i64 0,.string rd,.slice none 0 0]
 | 11,v,w=>∃ b,v = .slice (some ⟨b,0,none⟩) 3 3∧w1.heap.size≤b∧w.heap[b]? = some (.cells #[.int .i64 1,.int .i64 rt,.string ⟨#[]⟩,.slice none 0 0,.int .i64 1,.int .i64 rk,.string ⟨#[]⟩,.slice none 0 0,.int .i64 2,.int .i64 0,.string rd,.slice none 0 0] 70 (0,0))
 | 12,v,w=>∃ b,v = .agg #[.int .i64 3,.int .i64 0,.string ⟨#[]⟩,.slice (some ⟨b,0,none⟩) 3 3]∧w1.heap.size≤b∧w.heap[b]? = some (.cells #[.int .i64 1,.int .i64 rt,.string ⟨#[]⟩,.slice none 0 0,.int .i64 1,.int .i64 rk,.string ⟨#[]⟩,.slice none 0 0,.int .i64 2,.int .i64 0,.string rd,.slice none 0 0] 70 (0,0))
 | 13,v,w=>∃ b c,v = .slice (some ⟨c,0,none⟩) 1 1∧(w1.heap.size≤b∧w.heap[b]? = some (.cells #[.int .i64 1,.int .i64 rt,.string ⟨#[]⟩,.slice none 0 0,.int .i64 1,.int .i64 rk,.string ⟨#[]⟩,.slice none 0 0,.int .i64 2,.int .i64 0,.string rd,.slice none 0 0] 70 (0,0)))∧w.heap[c]? = some (.cells #[.int .i64 3,.int .i64 0,.string ⟨#[]⟩,.slice (some ⟨b,0,none⟩) 3 3] 70 (0,0))
 | 14,v,w=>∃ a3 c3 cells3,v = .slice a3 (acc.length+[recV ⟨rt,rk,rd⟩].length) c3∧MadeB base bx acc [recV ⟨rt,rk,rd⟩] va vc a3 c3 cells3 w
 | 15,v,w=>v = .pointer (some ⟨bx,3,none⟩)
 | _,_,_=>True
def wrrD:Nat→List Nat
 | 14=>[13]
 | _=>[]
theorem wrr_keep (base bx BR:Nat) (rt rk:Int) (rd:ByteArray) (va:Option Addr) (vc:Nat) (acc:List V) (cells:List Value) (w1:World):∀ (j:Nat) (u:Value) (w w':World),Below w.heap.size w w'→(wrrT base bx BR rt rk rd va vc acc cells w1) j u w→(wrrT base bx BR rt rk rd va vc acc cells w1) j u w'
 | 11,u,w,w',hb,h=>by obtain⟨b,rfl,h1,h2⟩:=h; exact⟨b,rfl,h1,(hb.block _ (lt_of_block h2)).trans h2⟩
 | 12,u,w,w',hb,h=>by obtain⟨b,rfl,h1,h2⟩:=h; exact⟨b,rfl,h1,(hb.block _ (lt_of_block h2)).trans h2⟩
 | 13,u,w,w',hb,h=>by obtain⟨b,c,rfl,⟨h1,h2⟩,h3⟩:=h; exact⟨b,c,rfl,⟨h1,(hb.block _ (lt_of_block h2)).trans h2⟩,(hb.block _ (lt_of_block h3)).trans h3⟩
 | 14,u,w,w',hb,h=>by obtain⟨a3,c3,cells3,rfl,h1⟩:=h; exact⟨a3,c3,cells3,rfl,h1.under hb⟩
 | 0,u,w,w',hb,h=>h
 | 1,u,w,w',hb,h=>h
 | 2,u,w,w',hb,h=>h
 | 3,u,w,w',hb,h=>h
 | 4,u,w,w',hb,h=>h
 | 5,u,w,w',hb,h=>h
 | 6,u,w,w',hb,h=>h
 | 7,u,w,w',hb,h=>h
 | 8,u,w,w',hb,h=>h
 | 9,u,w,w',hb,h=>h
 | 10,u,w,w',hb,h=>h
 | 15,u,w,w',hb,h=>h
 | _+16,u,w,w',hb,h=>trivial
set_option maxHeartbeats 4000000 in
theorem wrr_steps (base bx BR:Nat) (rt rk:Int) (rd:ByteArray) (va:Option Addr) (vc:Nat) (acc:List V) (cells:List Value) (w1:World) (hbw:base≤w1.heap.size) (hBRl:BR<w1.heap.size) (hBRn:some BR≠(Value.slice va acc.length vc).ownBlock) (hBRo:w1.heap[BR]? = some (.cells #[.int .i64 rt,.int .i64 rk,.string rd] 67 (0,0))) (hvl:∀ k,(Value.slice va acc.length vc).ownBlock=some k→k<w1.heap.size) (hn:acc.length≤1000000) (hV:Tryz.prog.underlying 68 = some (.slice 70)) {a:Act}(hs:a.tmps.size=31) (b3:a.eval (.tmp 3) = .pointer (some ⟨bx,0,none⟩)) (b5:a.eval (.tmp 5) = .pointer (some ⟨BR,0,none⟩)):∀ i o,i<16→(regOf Tryz.f55 5)[i]? = some o→StepOkE Tryz.prog (regOf Tryz.f55 5) a (fun e w=>(fun w=>w1.grownBy w (Value.slice va acc.length vc).ownBlock) w∧(e 14=none→(fun w=>MakingB base bx acc va vc cells w) w)) (wrrT base bx BR rt rk rd va vc acc cells w1) wrrD i o:=by
 have hz:∀ t,Nat.blt t 31=true→Nat.blt t a.tmps.size=true:=fun t h=>by rw [hs]; exact h
 have hsz:(regOf Tryz.f55 5).size=17:=by kernel_rfl
 intro i o hii ho
 match i,hii with
 | 0,_ =>
   have ho1:=opIs ho (p:=.fieldAddr 70 (.tmp 3) 3) (by kernel_rfl)
   have hg:=guardIs ho (p:=none) (by kernel_rfl)
   intro e A w hA hC hp hup K hk
   have hM:=hC.2 (hup 14 (by kernel_rfl))
   replace hC:=hC.1
   replace hk:Next (regOf Tryz.f55 5) (fun w=>(fun w=>w1.grownBy w (Value.slice va acc.length vc).ownBlock) w∧(fun w=>MakingB base bx acc va vc cells w) w) (wrrT base bx BR rt rk rd va vc acc cells w1) wrrD 0 e A w o.dst K:=hk.next fun v w h=>⟨h.1,fun _=>h.2⟩
   have hCM:=And.intro hC hM
   have x3:A.eval (.tmp 3) = .pointer (some ⟨bx,0,none⟩):=filled_base hA (by kernel_rfl) b3
   have hw:Region.wanted o (yielded (regOf Tryz.f55 5) A.tmps)=true:=wanted_free hg
   refine step_pure (v:=.pointer (some ⟨bx,3,none⟩)) hk hCM hw ?_ rfl
   unfold execOp
   simp only [ho1]
   generalize A.eval=ρ at x3 ⊢
   simp [go_sem,x3]
 | 1,_ =>
   have ho1:=opIs ho (p:=.load 68 (.tmp 13)) (by kernel_rfl)
   have hg:=guardIs ho (p:=none) (by kernel_rfl)
   intro e A w hA hC hp hup K hk
   have hM:=hC.2 (hup 14 (by kernel_rfl))
   replace hC:=hC.1
   replace hk:Next (regOf Tryz.f55 5) (fun w=>(fun w=>w1.grownBy w (Value.slice va acc.length vc).ownBlock) w∧(fun w=>MakingB base bx acc va vc cells w) w) (wrrT base bx BR rt rk rd va vc acc cells w1) wrrD 1 e A w o.dst K:=hk.next fun v w h=>⟨h.1,fun _=>h.2⟩
   have hCM:=And.intro hC hM
   have x13:A.eval (.tmp 13) = .pointer (some ⟨bx,3,none⟩):=op_tmp hA hp 13 0 (by kernel_rfl) (by kernel_rfl) (by kernel_rfl) (hz _ rfl)
   have hw:Region.wanted o (yielded (regOf Tryz.f55 5) A.tmps)=true:=wanted_free hg
   have e1:=hM.box.c3
   refine step_pure (v:=.slice va acc.length vc) hk hCM hw ?_ rfl
   unfold execOp
   simp only [ho1]
   generalize A.eval=ρ at x13 ⊢
   simp [go_sem,x13,e1]
 | 2,_ =>
   have ho1:=opIs ho (p:=.fieldAddr 67 (.tmp 5) 0) (by kernel_rfl)
   have hg:=guardIs ho (p:=none) (by kernel_rfl)
   intro e A w hA hC hp hup K hk
   have hM:=hC.2 (hup 14 (by kernel_rfl))
   replace hC:=hC.1
   replace hk:Next (regOf Tryz.f55 5) (fun w=>(fun w=>w1.grownBy w (Value.slice va acc.length vc).ownBlock) w∧(fun w=>MakingB base bx acc va vc cells w) w) (wrrT base bx BR rt rk rd va vc acc cells w1) wrrD 2 e A w o.dst K:=hk.next fun v w h=>⟨h.1,fun _=>h.2⟩
   have hCM:=And.intro hC hM
   have x5:A.eval (.tmp 5) = .pointer (some ⟨BR,0,none⟩):=filled_base hA (by kernel_rfl) b5
   have hw:Region.wanted o (yielded (regOf Tryz.f55 5) A.tmps)=true:=wanted_free hg
   refine step_pure (v:=.pointer (some ⟨BR,0,none⟩)) hk hCM hw ?_ rfl
   unfold execOp
   simp only [ho1]
   generalize A.eval=ρ at x5 ⊢
   simp [go_sem,x5]
 | 3,_ =>
   have ho1:=opIs ho (p:=.load 3 (.tmp 15)) (by kernel_rfl)
   have hg:=guardIs ho (p:=none) (by kernel_rfl)
   intro e A w hA hC hp hup K hk
   have hM:=hC.2 (hup 14 (by kernel_rfl))
   replace hC:=hC.1
   replace hk:Next (regOf Tryz.f55 5) (fun w=>(fun w=>w1.grownBy w (Value.slice va acc.length vc).ownBlock) w∧(fun w=>MakingB base bx acc va vc cells w) w) (wrrT base bx BR rt rk rd va vc acc cells w1) wrrD 3 e A w o.dst K:=hk.next fun v w h=>⟨h.1,fun _=>h.2⟩
   have hCM:=And.intro hC hM
   have x15:A.eval (.tmp 15) = .pointer (some ⟨BR,0,none⟩):=op_tmp hA hp 15 2 (by kernel_rfl) (by kernel_rfl) (by kernel_rfl) (hz _ rfl)
   have hw:Region.wanted o (yielded (regOf Tryz.f55 5) A.tmps)=true:=wanted_free hg
   have e1:=(Lib.cell_of_heap ((hC.block BR hBRl hBRn).trans hBRo) 0).trans (show _=some (Value.int .i64 rt) from rfl)
   refine step_pure (v:=.int .i64 rt) hk hCM hw ?_ rfl
   unfold execOp
   simp only [ho1]
   generalize A.eval=ρ at x15 ⊢
   simp [go_sem,x15,e1]
 | 4,_ =>
   have ho1:=opIs ho (p:=.call { callee:=(.value (.func 54)),args:=#[(.tmp 16)],argTypes:=#[3] }) (by kernel_rfl)
   have hg:=guardIs ho (p:=none) (by kernel_rfl)
   intro e A w hA hC hp hup K hk
   have hM:=hC.2 (hup 14 (by kernel_rfl))
   replace hC:=hC.1
   replace hk:Next (regOf Tryz.f55 5) (fun w=>(fun w=>w1.grownBy w (Value.slice va acc.length vc).ownBlock) w∧(fun w=>MakingB base bx acc va vc cells w) w) (wrrT base bx BR rt rk rd va vc acc cells w1) wrrD 4 e A w o.dst K:=hk.next fun v w h=>⟨h.1,fun _=>h.2⟩
   have hCM:=And.intro hC hM
   have x16:A.eval (.tmp 16) = .int .i64 rt:=op_tmp hA hp 16 3 (by kernel_rfl) (by kernel_rfl) (by kernel_rfl) (hz _ rfl)
   have hw:Region.wanted o (yielded (regOf Tryz.f55 5) A.tmps)=true:=wanted_free hg
   refine step_call (f:=54) (args:=#[.int .i64 rt]) hk hw ?_ ?_
   ·unfold execOp
    simp only [ho1]
    have xf:∀ f,A.eval (.func f) = .func (.func f) #[] #[]:=fun _=>rfl
    generalize A.eval=ρ at x16 xf ⊢
    simp [go_sem,xf,x16]
   ·refine (wnum_any rt w).mono ?_
    rintro en w' ⟨rfl,hb'⟩
    exact⟨_,rfl,rfl,⟨grown_trans hC (grown_of_below hb' _),hM.under hb'⟩,fun j u _ _ _ _ h=>wrr_keep base bx BR rt rk rd va vc acc cells w1 j u w _ hb' h⟩
 | 5,_ =>
   have ho1:=opIs ho (p:=.fieldAddr 67 (.tmp 5) 1) (by kernel_rfl)
   have hg:=guardIs ho (p:=none) (by kernel_rfl)
   intro e A w hA hC hp hup K hk
   have hM:=hC.2 (hup 14 (by kernel_rfl))
   replace hC:=hC.1
   replace hk:Next (regOf Tryz.f55 5) (fun w=>(fun w=>w1.grownBy w (Value.slice va acc.length vc).ownBlock) w∧(fun w=>MakingB base bx acc va vc cells w) w) (wrrT base bx BR rt rk rd va vc acc cells w1) wrrD 5 e A w o.dst K:=hk.next fun v w h=>⟨h.1,fun _=>h.2⟩
   have hCM:=And.intro hC hM
   have x5:A.eval (.tmp 5) = .pointer (some ⟨BR,0,none⟩):=filled_base hA (by kernel_rfl) b5
   have hw:Region.wanted o (yielded (regOf Tryz.f55 5) A.tmps)=true:=wanted_free hg
   refine step_pure (v:=.pointer (some ⟨BR,1,none⟩)) hk hCM hw ?_ rfl
   unfold execOp
   simp only [ho1]
   generalize A.eval=ρ at x5 ⊢
   simp [go_sem,x5]
 | 6,_ =>
   have ho1:=opIs ho (p:=.load 3 (.tmp 18)) (by kernel_rfl)
   have hg:=guardIs ho (p:=none) (by kernel_rfl)
   intro e A w hA hC hp hup K hk
   have hM:=hC.2 (hup 14 (by kernel_rfl))
   replace hC:=hC.1
   replace hk:Next (regOf Tryz.f55 5) (fun w=>(fun w=>w1.grownBy w (Value.slice va acc.length vc).ownBlock) w∧(fun w=>MakingB base bx acc va vc cells w) w) (wrrT base bx BR rt rk rd va vc acc cells w1) wrrD 6 e A w o.dst K:=hk.next fun v w h=>⟨h.1,fun _=>h.2⟩
   have hCM:=And.intro hC hM
   have x18:A.eval (.tmp 18) = .pointer (some ⟨BR,1,none⟩):=op_tmp hA hp 18 5 (by kernel_rfl) (by kernel_rfl) (by kernel_rfl) (hz _ rfl)
   have hw:Region.wanted o (yielded (regOf Tryz.f55 5) A.tmps)=true:=wanted_free hg
   have e1:=(Lib.cell_of_heap ((hC.block BR hBRl hBRn).trans hBRo) 1).trans (show _=some (Value.int .i64 rk) from rfl)
   refine step_pure (v:=.int .i64 rk) hk hCM hw ?_ rfl
   unfold execOp
   simp only [ho1]
   generalize A.eval=ρ at x18 ⊢
   simp [go_sem,x18,e1]
 | 7,_ =>
   have ho1:=opIs ho (p:=.call { callee:=(.value (.func 54)),args:=#[(.tmp 19)],argTypes:=#[3] }) (by kernel_rfl)
   have hg:=guardIs ho (p:=none) (by kernel_rfl)
   intro e A w hA hC hp hup K hk
   have hM:=hC.2 (hup 14 (by kernel_rfl))
   replace hC:=hC.1
   replace hk:Next (regOf Tryz.f55 5) (fun w=>(fun w=>w1.grownBy w (Value.slice va acc.length vc).ownBlock) w∧(fun w=>MakingB base bx acc va vc cells w) w) (wrrT base bx BR rt rk rd va vc acc cells w1) wrrD 7 e A w o.dst K:=hk.next fun v w h=>⟨h.1,fun _=>h.2⟩
   have hCM:=And.intro hC hM
   have x19:A.eval (.tmp 19) = .int .i64 rk:=op_tmp hA hp 19 6 (by kernel_rfl) (by kernel_rfl) (by kernel_rfl) (hz _ rfl)
   have hw:Region.wanted o (yielded (regOf Tryz.f55 5) A.tmps)=true:=wanted_free hg
   refine step_call (f:=54) (args:=#[.int .i64 rk]) hk hw ?_ ?_
   ·unfold execOp
    simp only [ho1]
    have xf:∀ f,A.eval (.func f) = .func (.func f) #[] #[]:=fun _=>rfl
    generalize A.eval=ρ at x19 xf ⊢
    simp [go_sem,xf,x19]
   ·refine (wnum_any rk w).mono ?_
    rintro en w' ⟨rfl,hb'⟩
    exact⟨_,rfl,rfl,⟨grown_trans hC (grown_of_below hb' _),hM.under hb'⟩,fun j u _ _ _ _ h=>wrr_keep base bx BR rt rk rd va vc acc cells w1 j u w _ hb' h⟩
 | 8,_ =>
   have ho1:=opIs ho (p:=.fieldAddr 67 (.tmp 5) 2) (by kernel_rfl)
   have hg:=guardIs ho (p:=none) (by kernel_rfl)
   intro e A w hA hC hp hup K hk
   have hM:=hC.2 (hup 14 (by kernel_rfl))
   replace hC:=hC.1
   replace hk:Next (regOf Tryz.f55 5) (fun w=>(fun w=>w1.grownBy w (Value.slice va acc.length vc).ownBlock) w∧(fun w=>MakingB base bx acc va vc cells w) w) (wrrT base bx BR rt rk rd va vc acc cells w1) wrrD 8 e A w o.dst K:=hk.next fun v w h=>⟨h.1,fun _=>h.2⟩
   have hCM:=And.intro hC hM
   have x5:A.eval (.tmp 5) = .pointer (some ⟨BR,0,none⟩):=filled_base hA (by kernel_rfl) b5
   have hw:Region.wanted o (yielded (regOf Tryz.f55 5) A.tmps)=true:=wanted_free hg
   refine step_pure (v:=.pointer (some ⟨BR,2,none⟩)) hk hCM hw ?_ rfl
   unfold execOp
   simp only [ho1]
   generalize A.eval=ρ at x5 ⊢
   simp [go_sem,x5]
 | 9,_ =>
   have ho1:=opIs ho (p:=.load 9 (.tmp 21)) (by kernel_rfl)
   have hg:=guardIs ho (p:=none) (by kernel_rfl)
   intro e A w hA hC hp hup K hk
   have hM:=hC.2 (hup 14 (by kernel_rfl))
   replace hC:=hC.1
   replace hk:Next (regOf Tryz.f55 5) (fun w=>(fun w=>w1.grownBy w (Value.slice va acc.length vc).ownBlock) w∧(fun w=>MakingB base bx acc va vc cells w) w) (wrrT base bx BR rt rk rd va vc acc cells w1) wrrD 9 e A w o.dst K:=hk.next fun v w h=>⟨h.1,fun _=>h.2⟩
   have hCM:=And.intro hC hM
   have x21:A.eval (.tmp 21) = .pointer (some ⟨BR,2,none⟩):=op_tmp hA hp 21 8 (by kernel_rfl) (by kernel_rfl) (by kernel_rfl) (hz _ rfl)
   have hw:Region.wanted o (yielded (regOf Tryz.f55 5) A.tmps)=true:=wanted_free hg
   have e1:=(Lib.cell_of_heap ((hC.block BR hBRl hBRn).trans hBRo) 2).trans (show _=some (Value.string rd) from rfl)
   refine step_pure (v:=.string rd) hk hCM hw ?_ rfl
   unfold execOp
   simp only [ho1]
   generalize A.eval=ρ at x21 ⊢
   simp [go_sem,x21,e1]
 | 10,_ =>
   have ho1:=opIs ho (p:=.build 70 #[(0,(.const (.int .i64 2))),(2,(.tmp 22))]) (by kernel_rfl)
   have hg:=guardIs ho (p:=none) (by kernel_rfl)
   intro e A w hA hC hp hup K hk
   have hM:=hC.2 (hup 14 (by kernel_rfl))
   replace hC:=hC.1
   replace hk:Next (regOf Tryz.f55 5) (fun w=>(fun w=>w1.grownBy w (Value.slice va acc.length vc).ownBlock) w∧(fun w=>MakingB base bx acc va vc cells w) w) (wrrT base bx BR rt rk rd va vc acc cells w1) wrrD 10 e A w o.dst K:=hk.next fun v w h=>⟨h.1,fun _=>h.2⟩
   have hCM:=And.intro hC hM
   have x22:A.eval (.tmp 22) = .string rd:=op_tmp hA hp 22 9 (by kernel_rfl) (by kernel_rfl) (by kernel_rfl) (hz _ rfl)
   have hw:Region.wanted o (yielded (regOf Tryz.f55 5) A.tmps)=true:=wanted_free hg
   refine step_pure (v:=.agg #[.int .i64 2,.int .i64 0,.string rd,.slice none 0 0]) hk hCM hw ?_ rfl
   unfold execOp
   simp only [ho1]
   have xc:∀ v,A.eval (.const v)=v:=fun _=>rfl
   generalize A.eval=ρ at x22 xc ⊢
   simp [go_sem,x22,xc]
 | 11,_ =>
   have ho1:=opIs ho (p:=.buildSlice 68 3 #[(0,(.tmp 17)),(1,(.tmp 20)),(2,(.tmp 23))]) (by kernel_rfl)
   have hg:=guardIs ho (p:=none) (by kernel_rfl)
   intro e A w hA hC hp hup K hk
   have hM:=hC.2 (hup 14 (by kernel_rfl))
   replace hC:=hC.1
   replace hk:Next (regOf Tryz.f55 5) (fun w=>(fun w=>w1.grownBy w (Value.slice va acc.length vc).ownBlock) w∧(fun w=>MakingB base bx acc va vc cells w) w) (wrrT base bx BR rt rk rd va vc acc cells w1) wrrD 11 e A w o.dst K:=hk.next fun v w h=>⟨h.1,fun _=>h.2⟩
   have hCM:=And.intro hC hM
   have x17:A.eval (.tmp 17) = .agg #[.int .i64 1,.int .i64 rt,.string ⟨#[]⟩,.slice none 0 0]:=op_tmp hA hp 17 4 (by kernel_rfl) (by kernel_rfl) (by kernel_rfl) (hz _ rfl)
   have x20:A.eval (.tmp 20) = .agg #[.int .i64 1,.int .i64 rk,.string ⟨#[]⟩,.slice none 0 0]:=op_tmp hA hp 20 7 (by kernel_rfl) (by kernel_rfl) (by kernel_rfl) (hz _ rfl)
   have x23:A.eval (.tmp 23) = .agg #[.int .i64 2,.int .i64 0,.string rd,.slice none 0 0]:=op_tmp hA hp 23 10 (by kernel_rfl) (by kernel_rfl) (by kernel_rfl) (hz _ rfl)
   have hw:Region.wanted o (yielded (regOf Tryz.f55 5) A.tmps)=true:=wanted_free hg
   refine step_value (v:=.slice (some ⟨w.heap.size,0,none⟩) 3 3) (w':=w.alloc (.cells #[.int .i64 1,.int .i64 rt,.string ⟨#[]⟩,.slice none 0 0,.int .i64 1,.int .i64 rk,.string ⟨#[]⟩,.slice none 0 0,.int .i64 2,.int .i64 0,.string rd,.slice none 0 0] 70)) hk hw ?_ ?_ ?_ ?_
   ·unfold execOp
    simp only [ho1]
    generalize A.eval=ρ at x17 x20 x23 ⊢
    simp [go_sem,x17,x20,x23]
   ·exact⟨w.heap.size,rfl,hC.size,heap_alloc_new w _⟩
   ·exact⟨grown_trans hC (World.grownBy_alloc w _ _),hM.under ((Below.refl _ w).alloc (Nat.le_refl _) _)⟩
   ·intro j u _ _ _ _ h
    exact wrr_keep base bx BR rt rk rd va vc acc cells w1 j u w _ ((Below.refl _ w).alloc (Nat.le_refl _) _) h
 | 12,_ =>
   have ho1:=opIs ho (p:=.build 70 #[(0,(.const (.int .i64 3))),(3,(.tmp 24))]) (by kernel_rfl)
   have hg:=guardIs ho (p:=none) (by kernel_rfl)
   intro e A w hA hC hp hup K hk
   have hM:=hC.2 (hup 14 (by kernel_rfl))
   replace hC:=hC.1
   replace hk:Next (regOf Tryz.f55 5) (fun w=>(fun w=>w1.grownBy w (Value.slice va acc.length vc).ownBlock) w∧(fun w=>MakingB base bx acc va vc cells w) w) (wrrT base bx BR rt rk rd va vc acc cells w1) wrrD 12 e A w o.dst K:=hk.next fun v w h=>⟨h.1,fun _=>h.2⟩
   have hCM:=And.intro hC hM
   have x24:=op_tmp hA hp 24 11 (by kernel_rfl) (by kernel_rfl) (by kernel_rfl) (hz _ rfl)
   have hw:Region.wanted o (yielded (regOf Tryz.f55 5) A.tmps)=true:=wanted_free hg
   obtain⟨b,x24,h1,h2⟩:=x24
   refine step_pure (v:=.agg #[.int .i64 3,.int .i64 0,.string ⟨#[]⟩,.slice (some ⟨b,0,none⟩) 3 3]) hk hCM hw ?_ ⟨b,rfl,h1,h2⟩
   unfold execOp
   simp only [ho1]
   have xc:∀ v,A.eval (.const v)=v:=fun _=>rfl
   generalize A.eval=ρ at x24 xc ⊢
   simp [go_sem,x24,xc]
 | 13,_ =>
   have ho1:=opIs ho (p:=.buildSlice 68 1 #[(0,(.tmp 25))]) (by kernel_rfl)
   have hg:=guardIs ho (p:=none) (by kernel_rfl)
   intro e A w hA hC hp hup K hk
   have hM:=hC.2 (hup 14 (by kernel_rfl))
   replace hC:=hC.1
   replace hk:Next (regOf Tryz.f55 5) (fun w=>(fun w=>w1.grownBy w (Value.slice va acc.length vc).ownBlock) w∧(fun w=>MakingB base bx acc va vc cells w) w) (wrrT base bx BR rt rk rd va vc acc cells w1) wrrD 13 e A w o.dst K:=hk.next fun v w h=>⟨h.1,fun _=>h.2⟩
   have hCM:=And.intro hC hM
   have x25:=op_tmp hA hp 25 12 (by kernel_rfl) (by kernel_rfl) (by kernel_rfl) (hz _ rfl)
   have hw:Region.wanted o (yielded (regOf Tryz.f55 5) A.tmps)=true:=wanted_free hg
   obtain⟨b,x25,h1,h2⟩:=x25
   refine step_value (v:=.slice (some ⟨w.heap.size,0,none⟩) 1 1) (w':=w.alloc (.cells #[.int .i64 3,.int .i64 0,.string ⟨#[]⟩,.slice (some ⟨b,0,none⟩) 3 3] 70)) hk hw ?_ ?_ ?_ ?_
   ·unfold execOp
    simp only [ho1]
    generalize A.eval=ρ at x25 ⊢
    simp [go_sem,x25]
   ·exact⟨b,w.heap.size,rfl,⟨h1,(heap_alloc_old w _ (lt_of_block h2)).trans h2⟩,heap_alloc_new w _⟩
   ·exact⟨grown_trans hC (World.grownBy_alloc w _ _),hM.under ((Below.refl _ w).alloc (Nat.le_refl _) _)⟩
   ·intro j u _ _ _ _ h
    exact wrr_keep base bx BR rt rk rd va vc acc cells w1 j u w _ ((Below.refl _ w).alloc (Nat.le_refl _) _) h
 | 14,_ =>
   have ho1:=opIs ho (p:=.call { callee:=(.builtin .append),args:=#[(.tmp 14),(.tmp 26)],argTypes:=#[68,68] }) (by kernel_rfl)
   have hg:=guardIs ho (p:=none) (by kernel_rfl)
   intro e A w hA hC hp hup K hk
   have hM:=hC.2 (hup 14 (by kernel_rfl))
   have x14:A.eval (.tmp 14) = .slice va acc.length vc:=op_tmp hA hp 14 1 (by kernel_rfl) (by kernel_rfl) (by kernel_rfl) (hz _ rfl)
   have x26:=op_tmp hA hp 26 13 (by kernel_rfl) (by kernel_rfl) (by kernel_rfl) (hz _ rfl)
   have hw:Region.wanted o (yielded (regOf Tryz.f55 5) A.tmps)=true:=wanted_free hg
   obtain⟨b,c,x26,⟨h1,h2⟩,h3⟩:=x26
   have hat:V.At w (fun p=>w1.heap.size≤p∧p<w.heap.size) (recV ⟨rt,rk,rd⟩) [.int .i64 3,.int .i64 0,.string ⟨#[]⟩,.slice (some ⟨b,0,none⟩) 3 3]:=by
    simp only [recV,listV,numV,textV,V.At,VAll]
    refine⟨some ⟨b,0,none⟩,3,rfl,Nat.le_refl _,(fun e=>by cases e),⟨b,0,[.int .i64 1,.int .i64 rt,.string ⟨#[]⟩,.slice none 0 0],rfl,⟨h1,lt_of_block h2⟩,⟨none,0,rfl,Nat.le_refl _,fun _=>rfl,trivial⟩,fun j u hj=>?_⟩,⟨b,0,[.int .i64 1,.int .i64 rk,.string ⟨#[]⟩,.slice none 0 0],rfl,⟨h1,lt_of_block h2⟩,⟨none,0,rfl,Nat.le_refl _,fun _=>rfl,trivial⟩,fun j u hj=>?_⟩,⟨b,0,[.int .i64 2,.int .i64 0,.string rd,.slice none 0 0],rfl,⟨h1,lt_of_block h2⟩,⟨none,0,rfl,Nat.le_refl _,fun _=>rfl,trivial⟩,fun j u hj=>?_⟩,trivial⟩
    ·match j,hj with
     | 0,hj=>exact (Lib.cell_of_heap h2 _).trans hj
     | 1,hj=>exact (Lib.cell_of_heap h2 _).trans hj
     | 2,hj=>exact (Lib.cell_of_heap h2 _).trans hj
     | 3,hj=>exact (Lib.cell_of_heap h2 _).trans hj
    ·match j,hj with
     | 0,hj=>exact (Lib.cell_of_heap h2 _).trans hj
     | 1,hj=>exact (Lib.cell_of_heap h2 _).trans hj
     | 2,hj=>exact (Lib.cell_of_heap h2 _).trans hj
     | 3,hj=>exact (Lib.cell_of_heap h2 _).trans hj
    ·match j,hj with
     | 0,hj=>exact (Lib.cell_of_heap h2 _).trans hj
     | 1,hj=>exact (Lib.cell_of_heap h2 _).trans hj
     | 2,hj=>exact (Lib.cell_of_heap h2 _).trans hj
     | 3,hj=>exact (Lib.cell_of_heap h2 _).trans hj
   have hrw:RowOf w (fun p=>w1.heap.size≤p∧p<w.heap.size) [recV ⟨rt,rk,rd⟩] [.int .i64 3,.int .i64 0,.string ⟨#[]⟩,.slice (some ⟨b,0,none⟩) 3 3]:=by have:=RowOf.snoc RowOf.nil hat; exact this
   obtain⟨a3,c3,cells3,w',hr,hg,hmade⟩:=makingB_append hM [recV ⟨rt,rk,rd⟩] _ 1 c w1.heap.size _ 68 o.type hV h3 rfl hrw hbw hvl (by decide) (by decide) hn
   rw [if_pos hw]
   unfold Oper.wp
   rw [show (execOp A.eval o).run Tryz.prog w = .ok (.value (.slice a3 (acc.length+[recV ⟨rt,rk,rd⟩].length) c3)) w' by
    unfold execOp
    simp only [ho1,resolve,invoke,builtin,Sem.run_bind,Sem.run_pure,Result.andThen_ok,List.map_toArray,List.map_cons,List.map_nil,x14,x26,hr]]
   have hown:∀ p,w1.heap.size≤p→some p≠(Value.slice va acc.length vc).ownBlock:=fun p hp e=>by have:=hvl p e.symm; omega
   refine hk _ _ ⟨a3,c3,cells3,rfl,hmade⟩ ⟨grown_trans hC.1 hg,fun h=>by rw [Vals.set_same] at h; cases h⟩ ?_
   intro j u hj hji _ hd h
   match j,h with
   | 0,h=>exact h
   | 1,h=>exact h
   | 2,h=>exact h
   | 3,h=>exact h
   | 4,h=>exact h
   | 5,h=>exact h
   | 6,h=>exact h
   | 7,h=>exact h
   | 8,h=>exact h
   | 9,h=>exact h
   | 10,h=>exact h
   | 11,h=>obtain⟨b,rfl,h1,h2⟩:=h; exact⟨b,rfl,h1,(hg.block _ (lt_of_block h2) (hown _ h1)).trans h2⟩
   | 12,h=>obtain⟨b,rfl,h1,h2⟩:=h; exact⟨b,rfl,h1,(hg.block _ (lt_of_block h2) (hown _ h1)).trans h2⟩
   | 13,h=>exact absurd rfl (hd 14 (by rw [hsz]; decide) rfl).1
   | 14,h=>exact absurd rfl hji
   | 15,h=>exact h
   | _+16,h=>trivial
 | 15,_ =>
   have ho1:=opIs ho (p:=.fieldAddr 70 (.tmp 3) 3) (by kernel_rfl)
   have hg:=guardIs ho (p:=none) (by kernel_rfl)
   intro e A w hA hC hp hup K hk
   replace hk:Next (regOf Tryz.f55 5) (fun w=>(fun w=>w1.grownBy w (Value.slice va acc.length vc).ownBlock) w∧(e 14=none→(fun w=>MakingB base bx acc va vc cells w) w)) (wrrT base bx BR rt rk rd va vc acc cells w1) wrrD 15 e A w o.dst K:=hk.next fun v w h=>⟨h.1,fun he=>h.2 (by rwa [Vals.set_other e v (by decide)] at he)⟩
   have hCM:=hC
   have x3:A.eval (.tmp 3) = .pointer (some ⟨bx,0,none⟩):=filled_base hA (by kernel_rfl) b3
   have hw:Region.wanted o (yielded (regOf Tryz.f55 5) A.tmps)=true:=wanted_free hg
   refine step_pure (v:=.pointer (some ⟨bx,3,none⟩)) hk hCM hw ?_ rfl
   unfold execOp
   simp only [ho1]
   generalize A.eval=ρ at x3 ⊢
   simp [go_sem,x3]
 | _+16,h=>exact absurd h (by omega)
set_option maxRecDepth 100000 in
set_option maxHeartbeats 2000000 in
theorem wrecs_any (a:Option Addr) (n c:Nat) (rs:List Rc) (w:World) (H:rcE.Sl w a n rs) (hn:n≤200) :
 Calls Tryz.prog 55 #[.slice a n c] w (fun e w'=>∃ ra rc,e = .returned (.agg #[.int .i64 3,.int .i64 0,.string ⟨#[]⟩,.slice ra n rc])∧V.At w' (fun p=>w.heap.size≤p∧p<w'.heap.size) (listV (rs.map recV)) [.int .i64 3,.int .i64 0,.string ⟨#[]⟩,.slice ra n rc]∧Below w.heap.size w w'):=by
 have HN:=Lib.hid (show n=rs.length from H.1)
 replace H:=Lib.hid H
 have HB0:=Lib.hid (((Below.refl _ w).alloc (Nat.le_refl _) (.cells #[.int .i64 0,.int .i64 0,.string ⟨#[]⟩,.slice none 0 0] 70)).alloc (by simp) (.cells #[.int .i64 3,.int .i64 0,.string ⟨#[]⟩,.slice none 0 0] 70))
 have HK0:=Lib.hid (Blk.both w (.cells #[.int .i64 0,.int .i64 0,.string ⟨#[]⟩,.slice none 0 0] 70) (.cells #[.int .i64 3,.int .i64 0,.string ⟨#[]⟩,.slice none 0 0] 70) _ _ [.int .i64 0,.int .i64 0,.string ⟨#[]⟩,.slice none 0 0] [.int .i64 3,.int .i64 0,.string ⟨#[]⟩,.slice none 0 0] rfl rfl).1
 have HF0:=Lib.hid (Blk.both w (.cells #[.int .i64 0,.int .i64 0,.string ⟨#[]⟩,.slice none 0 0] 70) (.cells #[.int .i64 3,.int .i64 0,.string ⟨#[]⟩,.slice none 0 0] 70) _ _ [.int .i64 0,.int .i64 0,.string ⟨#[]⟩,.slice none 0 0] [.int .i64 3,.int .i64 0,.string ⟨#[]⟩,.slice none 0 0] rfl rfl).2
 have HS0:Hid (((w.alloc (.cells #[.int .i64 0,.int .i64 0,.string ⟨#[]⟩,.slice none 0 0] 70)).alloc (.cells #[.int .i64 3,.int .i64 0,.string ⟨#[]⟩,.slice none 0 0] 70)).heap.size=w.heap.size+2):=Lib.hid (by simp)
 go_enter Tryz.func55,Tryz.ntmps55
 go_upto_region 2 with fail
 generalize ((w.alloc (.cells #[.int .i64 0,.int .i64 0,.string ⟨#[]⟩,.slice none 0 0] 70)).alloc (.cells #[.int .i64 3,.int .i64 0,.string ⟨#[]⟩,.slice none 0 0] 70))=w0 at *
 have hs0:=HS0.out
 have HM0:Hid (MakingB w0.heap.size (w.heap.size+1) [] none 0 [] w0):=Lib.hid (MakingB.start _ _ _ (by omega) (Nat.le_refl _) HF0.out)
 go_wp2_with fail
 go_loopg [9] n (fun gk v wr=>∃ (k:Nat) (acc:List V) (va:Option Addr) (vc:Nat) (cells:List Value),k≤n∧gk=n - k∧v = .int .i64 (k:Int)∧Hid (acc=(rs.take k).map recV)∧Hid (MakingB w0.heap.size (w.heap.size+1) acc va vc cells wr)∧Hid (KeptB w0.heap.size (w.heap.size+1) w0 wr))
 case atStart=>exact⟨0,[],none,0,[],Nat.zero_le _,rfl,rfl,Lib.hid rfl,HM0,Lib.hid (KeptB.refl _ _ _)⟩
 case round =>
  clear HM0
  obtain⟨k,acc,va,vc,cells,hk,rfl,rfl,HACC,hM,hKP⟩:=hrel
  have HL:Hid (acc.length=k):=Lib.hid (by rw [HACC.out,List.length_map,List.length_take]; have:=HN.out; omega)
  have HBr:=Lib.hid (HB0.out.trans (hKP.out.below (B:=w.heap.size) (by omega) (by omega)))
  by_cases hkn:k<n
  ·have hki:(k:Int)<(n:Int):=by omega
   have hkl:k<rs.length:=by rw [← HN.out]; exact hkn
   obtain⟨b,off,rfl,hc⟩:=rc_at (H.out.keep HBr.out) (by omega)
   obtain⟨c0,c1,c2⟩:=hc k hkl
   have HLI:Hid (acc.length≤200):=Lib.hid (by have:=HL.out; omega)
   have HMT:Hid (acc++[recV rs[k]]=(rs.take (k+1)).map recV):=Lib.hid (by rw [HACC.out,List.take_add_one,List.getElem?_eq_getElem hkl,List.map_append]; rfl)
   clear hc
   generalize rs[k]=r at *
   obtain⟨rt,rk,rd⟩:=r
   dsimp only at c0 c1 c2
   have hbq:Below wr.heap.size wr (wr.alloc (.cells #[.int .i64 rt,.int .i64 rk,.string rd] 67)):=(Below.refl _ wr).alloc (Nat.le_refl _) _
   have HMq:=Lib.hid (hM.out.under hbq)
   have KPq:=Lib.hid (hKP.out.under hbq hM.out.le)
   have HRq:Hid ((wr.alloc (.cells #[.int .i64 rt,.int .i64 rk,.string rd] 67)).heap[wr.heap.size]? = some (.cells #[.int .i64 rt,.int .i64 rk,.string rd] 67 (0,0))):=Lib.hid (heap_alloc_new wr _)
   have HOL:=Lib.hid hM.out.own.lt
   have hsq:wr.heap.size<(wr.alloc (.cells #[.int .i64 rt,.int .i64 rk,.string rd] 67)).heap.size:=by simp
   have HSQ:=Lib.hid hsq
   clear hbq hM hKP hsq
   go_wp2_with fail
   clear c0 c1 c2
   generalize (wr.alloc (.cells #[.int .i64 rt,.int .i64 rk,.string rd] 67))=wq at *
   refine wp_region_lastE (regOf Tryz.f55 5) [some 13,some 14,some 15,some 16,some 17,some 18,some 19,some 20,some 21,some 22,some 23,some 24,some 25,some 26,some 27,some 28] 16 (wrrT w0.heap.size ((w.heap.size+1)) wr.heap.size rt rk rd va vc acc cells wq) (fun e w'=>(wq.grownBy w' (Value.slice va acc.length vc).ownBlock)∧(e 14=none→MakingB w0.heap.size ((w.heap.size+1)) acc va vc cells w')) wrrD (by kernel_rfl) (by kernel_rfl) (by kernel_rfl) (by kernel_rfl) (by kernel_rfl) (by kernel_rfl) (by kernel_rfl) ⟨grown_of_below ((Below.refl _ _).drew) _,fun _=>HMq.out.under ((Below.refl _ _).drew)⟩
    (wrr_steps w0.heap.size ((w.heap.size+1)) wr.heap.size rt rk rd va vc acc cells wq (HMq.out.le) (HSQ.out) (fun e=>by have:=(HOL.out _ e.symm).2; omega) HRq.out (fun k hk=>(HMq.out.own.lt k hk).2) (by have:=HLI.out; omega) (by kernel_rfl) (by kernel_rfl) (by kernel_rfl) (by kernel_rfl)) ?_
   intro oL hoL eL vs w11 hn hallL hCw11 hT KL hKL
   replace hn:vs.length=16:=hn
   obtain⟨v0,vs1,rfl,hn1⟩:=len_cons hn
   obtain⟨v1,vs2,rfl,hn2⟩:=len_cons hn1
   obtain⟨v2,vs3,rfl,hn3⟩:=len_cons hn2
   obtain⟨v3,vs4,rfl,hn4⟩:=len_cons hn3
   obtain⟨v4,vs5,rfl,hn5⟩:=len_cons hn4
   obtain⟨v5,vs6,rfl,hn6⟩:=len_cons hn5
   obtain⟨v6,vs7,rfl,hn7⟩:=len_cons hn6
   obtain⟨v7,vs8,rfl,hn8⟩:=len_cons hn7
   obtain⟨v8,vs9,rfl,hn9⟩:=len_cons hn8
   obtain⟨v9,vs10,rfl,hn10⟩:=len_cons hn9
   obtain⟨v10,vs11,rfl,hn11⟩:=len_cons hn10
   obtain⟨v11,vs12,rfl,hn12⟩:=len_cons hn11
   obtain⟨v12,vs13,rfl,hn13⟩:=len_cons hn12
   obtain⟨v13,vs14,rfl,hn14⟩:=len_cons hn13
   obtain⟨v14,vs15,rfl,hn15⟩:=len_cons hn14
   obtain⟨v15,vs16,rfl,hn16⟩:=len_cons hn15
   obtain rfl:=List.eq_nil_of_length_eq_zero hn16
   clear hn hn1 hn2 hn3 hn4 hn5 hn6 hn7 hn8 hn9 hn10 hn11 hn12 hn13 hn14 hn15 hn16
   obtain rfl:v0 = .pointer (some ⟨(w.heap.size+1),3,none⟩):=hT 0 v0 rfl (by kernel_rfl)
   obtain rfl:v1 = .slice va acc.length vc:=hT 1 v1 rfl (by kernel_rfl)
   obtain rfl:v2 = .pointer (some ⟨wr.heap.size,0,none⟩):=hT 2 v2 rfl (by kernel_rfl)
   obtain rfl:v3 = .int .i64 rt:=hT 3 v3 rfl (by kernel_rfl)
   obtain rfl:v4 = .agg #[.int .i64 1,.int .i64 rt,.string ⟨#[]⟩,.slice none 0 0]:=hT 4 v4 rfl (by kernel_rfl)
   obtain rfl:v5 = .pointer (some ⟨wr.heap.size,1,none⟩):=hT 5 v5 rfl (by kernel_rfl)
   obtain rfl:v6 = .int .i64 rk:=hT 6 v6 rfl (by kernel_rfl)
   obtain rfl:v7 = .agg #[.int .i64 1,.int .i64 rk,.string ⟨#[]⟩,.slice none 0 0]:=hT 7 v7 rfl (by kernel_rfl)
   obtain rfl:v8 = .pointer (some ⟨wr.heap.size,2,none⟩):=hT 8 v8 rfl (by kernel_rfl)
   obtain rfl:v9 = .string rd:=hT 9 v9 rfl (by kernel_rfl)
   obtain rfl:v10 = .agg #[.int .i64 2,.int .i64 0,.string rd,.slice none 0 0]:=hT 10 v10 rfl (by kernel_rfl)
   have t11:=Lib.hid (hT 11 v11 rfl (by kernel_rfl))
   have t12:=Lib.hid (hT 12 v12 rfl (by kernel_rfl))
   have t14:=Lib.hid (hT 14 v14 rfl (by kernel_rfl))
   obtain rfl:v15 = .pointer (some ⟨(w.heap.size+1),3,none⟩):=hT 15 v15 rfl (by kernel_rfl)
   clear hT
   have hoL1:=opIs hoL (p:=.store 68 (.tmp 28) (.tmp 27)) (by kernel_rfl)
   have hgL:=guardIs hoL (p:=none) (by kernel_rfl)
   have hdL:oL.dst=none:=by have:=(show ((regOf Tryz.f55 5)[16]?).map (·.dst)=some (none) by kernel_rfl); rw [hoL] at this; simpa using this
   rw [if_pos (wanted_free hgL)]
   rw [hdL] at hKL
   simp only [puts,Act.put,List.setIfInBounds_toArray,List.set_cons_succ,List.set_cons_zero] at hKL ⊢
   obtain⟨hC9,-⟩:=hCw11
   obtain⟨a3,c3,cells3,e11,hmade⟩:=t14.out
   subst e11
   have e3:=hmade.box.c3
   have k3:=hmade.box.free 3
   unfold Oper.wp
   rw [show (execOp _ oL).run Tryz.prog w11 = .ok .skip (w11.setCell ⟨(w.heap.size+1),3,none⟩ (.slice a3 (acc.length+[recV ⟨rt,rk,rd⟩].length) c3)) by unfold execOp; simp only [hoL1]; simp [go_sem,e3,k3]]
   show KL (Act.put _ oL.dst undef) _
   rw [hdL]
   refine hKL undef _ ?_
   have HMK:=Lib.hid hmade.store
   have HKN:=Lib.hid ((KPq.out.grown hC9 (by have:=HMq.out.le; omega) (fun k hk=>.inl (HMq.out.own.lt k hk).1)).grown (grown_setCell w11 ((w.heap.size+1)) 3 (.slice a3 (acc.length+[recV ⟨rt,rk,rd⟩].length) c3)) (by have:=hC9.size; have:=HMq.out.le; omega) (fun k hk=>.inr (Option.some.inj hk).symm))
   clear e3 k3 hmade t11 t12 t14 hC9 hKL hoL hoL1 hgL hdL hallL
   generalize w11.setCell ⟨(w.heap.size+1),3,none⟩ (.slice a3 (acc.length+[recV ⟨rt,rk,rd⟩].length) c3)=w12 at *
   go_wp2_with fail
   go_roundg (n - (k+1))
   case rel=>exact⟨k+1,_,a3,c3,cells3,by omega,rfl,by go_num,HMT,HMK,HKN⟩
   case measure=>omega
  ·obtain rfl:k=n:=by omega
   have HACR:Hid (acc=rs.map recV):=Lib.hid (by rw [HACC.out,HN.out,List.take_length])
   have HLN:=Lib.hid (show acc.length=k from HL.out)
   have HKz:=Lib.hid (show Blk wr w.heap.size _ _ from (hKP.out.block _ (by omega) (by omega)).trans HK0.out)
   have z0:=hM.out.box.c0
   have z1:=hM.out.box.c1
   have z2:=hM.out.box.c2
   have z3:=hM.out.box.c3
   have q0:=HKz.out.cell (j:=0) rfl
   have q1:=HKz.out.cell (j:=1) rfl
   have q2:=HKz.out.cell (j:=2) rfl
   have q3:=HKz.out.cell (j:=3) rfl
   have f0:=HKz.out.free 0
   have f1:=HKz.out.free 1
   have f2:=HKz.out.free 2
   have f3:=HKz.out.free 3
   go_wp2_with fail
   have hz9:=(((HKz.out.set 0 (.int .i64 3)).set 1 (.int .i64 0)).set 2 (.string ⟨#[]⟩)).set 3 (.slice va acc.length vc)
   have hg9:=grown_trans (grown_trans (grown_trans (grown_setCell wr w.heap.size 0 (.int .i64 3)) (grown_setCell _ w.heap.size 1 (.int .i64 0))) (grown_setCell _ w.heap.size 2 (.string ⟨#[]⟩))) (grown_setCell _ w.heap.size 3 (.slice va acc.length vc))
   have HB9:=Lib.hid (HBr.out.grown hg9 HBr.out.size (fun q e=>by have:=Option.some.inj e; omega))
   have HAT:=Lib.hid hM.out.at
   refine bodyPost_ret (v:=.agg #[.int .i64 3,.int .i64 0,.string ⟨#[]⟩,.slice va acc.length vc]) ?_ rfl ?_
   ·exact results_cell_row (p:=2) rfl _ _ w.heap.size 70 _ (0,0) _ rfl hz9 Tryz.underlying70 rfl (by kernel_rfl)
   ·rw [← HACR.out]
    refine⟨va,vc,by rw [HLN.out],?_,HB9.out⟩
    rw [← HLN.out]
    exact V.At.move (fun p hp=>⟨by have:=hp.1; omega,Nat.lt_of_lt_of_le hp.2 hg9.size⟩) (fun p hp=>hg9.block p hp.2 (fun e=>by have:=Option.some.inj e; have:=hp.1; omega)) _ _ HAT.out
def rrrT (base bx BR:Nat) (rt rk:Int) (rd:ByteArray) (va:Option Addr) (vc:Nat) (acc:List V) (cells:List Value) (w1:World):Nat→Value→World→Prop
 | 0,v,w=>v = .pointer (some ⟨bx,3,none⟩)
 | 1,v,w=>v = .slice va acc.length vc
 | 2,v,w=>v = .pointer (some ⟨BR,0,none⟩)
 | 3,v,w=>v = .int .i64 rt
 | 4,v,w=>v = .agg #[.int .i64 1,.int .i64 rt,.string ⟨#[]⟩,.slice none 0 0]
 | 5,v,w=>v = .pointer (some ⟨BR,1,none⟩)
 | 6,v,w=>v = .int .i64 rk
 | 7,v,w=>v = .agg #[.int .i64 1,.int .i64 rk,.string ⟨#[]⟩,.slice none 0 0]
 | 8,v,w=>v = .pointer (some ⟨BR,2,none⟩)
 | 9,v,w=>v = .string rd
 | 10,v,w=>v = .agg #[.int .i64 2,.int .i64 0,.string rd,.slice none 0 0]
 | 11,v,w=>∃ b,v = .slice (some ⟨b,0,none⟩) 3 3∧w1.heap.size≤b∧w.heap[b]? = some (.cells #[.int .i64 1,.int .i64 rt,.string ⟨#[]⟩,.slice none 0 0,.int .i64 1,.int .i64 rk,.string ⟨#[]⟩,.slice none 0 0,.int .i64 2,.int .i64 0,.string rd,.slice none 0 0] 70 (0,0))
 | 12,v,w=>∃ b,v = .agg #[.int .i64 3,.int .i64 0,.string ⟨#[]⟩,.slice (some ⟨b,0,none⟩) 3 3]∧w1.heap.size≤b∧w.heap[b]? = some (.cells #[.int .i64 1,.int .i64 rt,.string ⟨#[]⟩,.slice none 0 0,.int .i64 1,.int .i64 rk,.string ⟨#[]⟩,.slice none 0 0,.int .i64 2,.int .i64 0,.string rd,.slice none 0 0] 70 (0,0))
 | 13,v,w=>∃ b c,v = .slice (some ⟨c,0,none⟩) 1 1∧(w1.heap.size≤b∧w.heap[b]? = some (.cells #[.int .i64 1,.int .i64 rt,.string ⟨#[]⟩,.slice none 0 0,.int .i64 1,.int .i64 rk,.string ⟨#[]⟩,.slice none 0 0,.int .i64 2,.int .i64 0,.string rd,.slice none 0 0] 70 (0,0)))∧w.heap[c]? = some (.cells #[.int .i64 3,.int .i64 0,.string ⟨#[]⟩,.slice (some ⟨b,0,none⟩) 3 3] 70 (0,0))
 | 14,v,w=>∃ a3 c3 cells3,v = .slice a3 (acc.length+[recV ⟨rt,rk,rd⟩].length) c3∧MadeB base bx acc [recV ⟨rt,rk,rd⟩] va vc a3 c3 cells3 w
 | 15,v,w=>v = .pointer (some ⟨bx,3,none⟩)
 | _,_,_=>True
def rrrD:Nat→List Nat
 | 14=>[13]
 | _=>[]
theorem rrr_keep (base bx BR:Nat) (rt rk:Int) (rd:ByteArray) (va:Option Addr) (vc:Nat) (acc:List V) (cells:List Value) (w1:World):∀ (j:Nat) (u:Value) (w w':World),Below w.heap.size w w'→(rrrT base bx BR rt rk rd va vc acc cells w1) j u w→(rrrT base bx BR rt rk rd va vc acc cells w1) j u w'
 | 11,u,w,w',hb,h=>by obtain⟨b,rfl,h1,h2⟩:=h; exact⟨b,rfl,h1,(hb.block _ (lt_of_block h2)).trans h2⟩
 | 12,u,w,w',hb,h=>by obtain⟨b,rfl,h1,h2⟩:=h; exact⟨b,rfl,h1,(hb.block _ (lt_of_block h2)).trans h2⟩
 | 13,u,w,w',hb,h=>by obtain⟨b,c,rfl,⟨h1,h2⟩,h3⟩:=h; exact⟨b,c,rfl,⟨h1,(hb.block _ (lt_of_block h2)).trans h2⟩,(hb.block _ (lt_of_block h3)).trans h3⟩
 | 14,u,w,w',hb,h=>by obtain⟨a3,c3,cells3,rfl,h1⟩:=h; exact⟨a3,c3,cells3,rfl,h1.under hb⟩
 | 0,u,w,w',hb,h=>h
 | 1,u,w,w',hb,h=>h
 | 2,u,w,w',hb,h=>h
 | 3,u,w,w',hb,h=>h
 | 4,u,w,w',hb,h=>h
 | 5,u,w,w',hb,h=>h
 | 6,u,w,w',hb,h=>h
 | 7,u,w,w',hb,h=>h
 | 8,u,w,w',hb,h=>h
 | 9,u,w,w',hb,h=>h
 | 10,u,w,w',hb,h=>h
 | 15,u,w,w',hb,h=>h
 | _+16,u,w,w',hb,h=>trivial
set_option maxHeartbeats 4000000 in
theorem rrr_steps (base bx BR:Nat) (rt rk:Int) (rd:ByteArray) (va:Option Addr) (vc:Nat) (acc:List V) (cells:List Value) (w1:World) (hbw:base≤w1.heap.size) (hBRl:BR<w1.heap.size) (hBRn:some BR≠(Value.slice va acc.length vc).ownBlock) (hBRo:w1.heap[BR]? = some (.cells #[.int .i64 rt,.int .i64 rk,.string rd] 67 (0,0))) (hvl:∀ k,(Value.slice va acc.length vc).ownBlock=some k→k<w1.heap.size) (hn:acc.length≤1000000) (hV:Tryz.prog.underlying 68 = some (.slice 70)) {a:Act}(hs:a.tmps.size=31) (b3:a.eval (.tmp 3) = .pointer (some ⟨bx,0,none⟩)) (b5:a.eval (.tmp 5) = .pointer (some ⟨BR,0,none⟩)):∀ i o,i<16→(regOf Tryz.f109 5)[i]? = some o→StepOkE Tryz.prog (regOf Tryz.f109 5) a (fun e w=>(fun w=>w1.grownBy w (Value.slice va acc.length vc).ownBlock) w∧(e 14=none→(fun w=>MakingB base bx acc va vc cells w) w)) (rrrT base bx BR rt rk rd va vc acc cells w1) rrrD i o:=by
 have hz:∀ t,Nat.blt t 31=true→Nat.blt t a.tmps.size=true:=fun t h=>by rw [hs]; exact h
 have hsz:(regOf Tryz.f109 5).size=17:=by kernel_rfl
 intro i o hii ho
 match i,hii with
 | 0,_ =>
   have ho1:=opIs ho (p:=.fieldAddr 70 (.tmp 3) 3) (by kernel_rfl)
   have hg:=guardIs ho (p:=none) (by kernel_rfl)
   intro e A w hA hC hp hup K hk
   have hM:=hC.2 (hup 14 (by kernel_rfl))
   replace hC:=hC.1
   replace hk:Next (regOf Tryz.f109 5) (fun w=>(fun w=>w1.grownBy w (Value.slice va acc.length vc).ownBlock) w∧(fun w=>MakingB base bx acc va vc cells w) w) (rrrT base bx BR rt rk rd va vc acc cells w1) rrrD 0 e A w o.dst K:=hk.next fun v w h=>⟨h.1,fun _=>h.2⟩
   have hCM:=And.intro hC hM
   have x3:A.eval (.tmp 3) = .pointer (some ⟨bx,0,none⟩):=filled_base hA (by kernel_rfl) b3
   have hw:Region.wanted o (yielded (regOf Tryz.f109 5) A.tmps)=true:=wanted_free hg
   refine step_pure (v:=.pointer (some ⟨bx,3,none⟩)) hk hCM hw ?_ rfl
   unfold execOp
   simp only [ho1]
   generalize A.eval=ρ at x3 ⊢
   simp [go_sem,x3]
 | 1,_ =>
   have ho1:=opIs ho (p:=.load 68 (.tmp 13)) (by kernel_rfl)
   have hg:=guardIs ho (p:=none) (by kernel_rfl)
   intro e A w hA hC hp hup K hk
   have hM:=hC.2 (hup 14 (by kernel_rfl))
   replace hC:=hC.1
   replace hk:Next (regOf Tryz.f109 5) (fun w=>(fun w=>w1.grownBy w (Value.slice va acc.length vc).ownBlock) w∧(fun w=>MakingB base bx acc va vc cells w) w) (rrrT base bx BR rt rk rd va vc acc cells w1) rrrD 1 e A w o.dst K:=hk.next fun v w h=>⟨h.1,fun _=>h.2⟩
   have hCM:=And.intro hC hM
   have x13:A.eval (.tmp 13) = .pointer (some ⟨bx,3,none⟩):=op_tmp hA hp 13 0 (by kernel_rfl) (by kernel_rfl) (by kernel_rfl) (hz _ rfl)
   have hw:Region.wanted o (yielded (regOf Tryz.f109 5) A.tmps)=true:=wanted_free hg
   have e1:=hM.box.c3
   refine step_pure (v:=.slice va acc.length vc) hk hCM hw ?_ rfl
   unfold execOp
   simp only [ho1]
   generalize A.eval=ρ at x13 ⊢
   simp [go_sem,x13,e1]
 | 2,_ =>
   have ho1:=opIs ho (p:=.fieldAddr 67 (.tmp 5) 0) (by kernel_rfl)
   have hg:=guardIs ho (p:=none) (by kernel_rfl)
   intro e A w hA hC hp hup K hk
   have hM:=hC.2 (hup 14 (by kernel_rfl))
   replace hC:=hC.1
   replace hk:Next (regOf Tryz.f109 5) (fun w=>(fun w=>w1.grownBy w (Value.slice va acc.length vc).ownBlock) w∧(fun w=>MakingB base bx acc va vc cells w) w) (rrrT base bx BR rt rk rd va vc acc cells w1) rrrD 2 e A w o.dst K:=hk.next fun v w h=>⟨h.1,fun _=>h.2⟩
   have hCM:=And.intro hC hM
   have x5:A.eval (.tmp 5) = .pointer (some ⟨BR,0,none⟩):=filled_base hA (by kernel_rfl) b5
   have hw:Region.wanted o (yielded (regOf Tryz.f109 5) A.tmps)=true:=wanted_free hg
   refine step_pure (v:=.pointer (some ⟨BR,0,none⟩)) hk hCM hw ?_ rfl
   unfold execOp
   simp only [ho1]
   generalize A.eval=ρ at x5 ⊢
   simp [go_sem,x5]
 | 3,_ =>
   have ho1:=opIs ho (p:=.load 3 (.tmp 15)) (by kernel_rfl)
   have hg:=guardIs ho (p:=none) (by kernel_rfl)
   intro e A w hA hC hp hup K hk
   have hM:=hC.2 (hup 14 (by kernel_rfl))
   replace hC:=hC.1
   replace hk:Next (regOf Tryz.f109 5) (fun w=>(fun w=>w1.grownBy w (Value.slice va acc.length vc).ownBlock) w∧(fun w=>MakingB base bx acc va vc cells w) w) (rrrT base bx BR rt rk rd va vc acc cells w1) rrrD 3 e A w o.dst K:=hk.next fun v w h=>⟨h.1,fun _=>h.2⟩
   have hCM:=And.intro hC hM
   have x15:A.eval (.tmp 15) = .pointer (some ⟨BR,0,none⟩):=op_tmp hA hp 15 2 (by kernel_rfl) (by kernel_rfl) (by kernel_rfl) (hz _ rfl)
   have hw:Region.wanted o (yielded (regOf Tryz.f109 5) A.tmps)=true:=wanted_free hg
   have e1:=(Lib.cell_of_heap ((hC.block BR hBRl hBRn).trans hBRo) 0).trans (show _=some (Value.int .i64 rt) from rfl)
   refine step_pure (v:=.int .i64 rt) hk hCM hw ?_ rfl
   unfold execOp
   simp only [ho1]
   generalize A.eval=ρ at x15 ⊢
   simp [go_sem,x15,e1]
 | 4,_ =>
   have ho1:=opIs ho (p:=.call { callee:=(.value (.func 108)),args:=#[(.tmp 16)],argTypes:=#[3] }) (by kernel_rfl)
   have hg:=guardIs ho (p:=none) (by kernel_rfl)
   intro e A w hA hC hp hup K hk
   have hM:=hC.2 (hup 14 (by kernel_rfl))
   replace hC:=hC.1
   replace hk:Next (regOf Tryz.f109 5) (fun w=>(fun w=>w1.grownBy w (Value.slice va acc.length vc).ownBlock) w∧(fun w=>MakingB base bx acc va vc cells w) w) (rrrT base bx BR rt rk rd va vc acc cells w1) rrrD 4 e A w o.dst K:=hk.next fun v w h=>⟨h.1,fun _=>h.2⟩
   have hCM:=And.intro hC hM
   have x16:A.eval (.tmp 16) = .int .i64 rt:=op_tmp hA hp 16 3 (by kernel_rfl) (by kernel_rfl) (by kernel_rfl) (hz _ rfl)
   have hw:Region.wanted o (yielded (regOf Tryz.f109 5) A.tmps)=true:=wanted_free hg
   refine step_call (f:=108) (args:=#[.int .i64 rt]) hk hw ?_ ?_
   ·unfold execOp
    simp only [ho1]
    have xf:∀ f,A.eval (.func f) = .func (.func f) #[] #[]:=fun _=>rfl
    generalize A.eval=ρ at x16 xf ⊢
    simp [go_sem,xf,x16]
   ·refine (rnum14_any rt w).mono ?_
    rintro en w' ⟨rfl,hb'⟩
    exact⟨_,rfl,rfl,⟨grown_trans hC (grown_of_below hb' _),hM.under hb'⟩,fun j u _ _ _ _ h=>rrr_keep base bx BR rt rk rd va vc acc cells w1 j u w _ hb' h⟩
 | 5,_ =>
   have ho1:=opIs ho (p:=.fieldAddr 67 (.tmp 5) 1) (by kernel_rfl)
   have hg:=guardIs ho (p:=none) (by kernel_rfl)
   intro e A w hA hC hp hup K hk
   have hM:=hC.2 (hup 14 (by kernel_rfl))
   replace hC:=hC.1
   replace hk:Next (regOf Tryz.f109 5) (fun w=>(fun w=>w1.grownBy w (Value.slice va acc.length vc).ownBlock) w∧(fun w=>MakingB base bx acc va vc cells w) w) (rrrT base bx BR rt rk rd va vc acc cells w1) rrrD 5 e A w o.dst K:=hk.next fun v w h=>⟨h.1,fun _=>h.2⟩
   have hCM:=And.intro hC hM
   have x5:A.eval (.tmp 5) = .pointer (some ⟨BR,0,none⟩):=filled_base hA (by kernel_rfl) b5
   have hw:Region.wanted o (yielded (regOf Tryz.f109 5) A.tmps)=true:=wanted_free hg
   refine step_pure (v:=.pointer (some ⟨BR,1,none⟩)) hk hCM hw ?_ rfl
   unfold execOp
   simp only [ho1]
   generalize A.eval=ρ at x5 ⊢
   simp [go_sem,x5]
 | 6,_ =>
   have ho1:=opIs ho (p:=.load 3 (.tmp 18)) (by kernel_rfl)
   have hg:=guardIs ho (p:=none) (by kernel_rfl)
   intro e A w hA hC hp hup K hk
   have hM:=hC.2 (hup 14 (by kernel_rfl))
   replace hC:=hC.1
   replace hk:Next (regOf Tryz.f109 5) (fun w=>(fun w=>w1.grownBy w (Value.slice va acc.length vc).ownBlock) w∧(fun w=>MakingB base bx acc va vc cells w) w) (rrrT base bx BR rt rk rd va vc acc cells w1) rrrD 6 e A w o.dst K:=hk.next fun v w h=>⟨h.1,fun _=>h.2⟩
   have hCM:=And.intro hC hM
   have x18:A.eval (.tmp 18) = .pointer (some ⟨BR,1,none⟩):=op_tmp hA hp 18 5 (by kernel_rfl) (by kernel_rfl) (by kernel_rfl) (hz _ rfl)
   have hw:Region.wanted o (yielded (regOf Tryz.f109 5) A.tmps)=true:=wanted_free hg
   have e1:=(Lib.cell_of_heap ((hC.block BR hBRl hBRn).trans hBRo) 1).trans (show _=some (Value.int .i64 rk) from rfl)
   refine step_pure (v:=.int .i64 rk) hk hCM hw ?_ rfl
   unfold execOp
   simp only [ho1]
   generalize A.eval=ρ at x18 ⊢
   simp [go_sem,x18,e1]
 | 7,_ =>
   have ho1:=opIs ho (p:=.call { callee:=(.value (.func 108)),args:=#[(.tmp 19)],argTypes:=#[3] }) (by kernel_rfl)
   have hg:=guardIs ho (p:=none) (by kernel_rfl)
   intro e A w hA hC hp hup K hk
   have hM:=hC.2 (hup 14 (by kernel_rfl))
   replace hC:=hC.1
   replace hk:Next (regOf Tryz.f109 5) (fun w=>(fun w=>w1.grownBy w (Value.slice va acc.length vc).ownBlock) w∧(fun w=>MakingB base bx acc va vc cells w) w) (rrrT base bx BR rt rk rd va vc acc cells w1) rrrD 7 e A w o.dst K:=hk.next fun v w h=>⟨h.1,fun _=>h.2⟩
   have hCM:=And.intro hC hM
   have x19:A.eval (.tmp 19) = .int .i64 rk:=op_tmp hA hp 19 6 (by kernel_rfl) (by kernel_rfl) (by kernel_rfl) (hz _ rfl)
   have hw:Region.wanted o (yielded (regOf Tryz.f109 5) A.tmps)=true:=wanted_free hg
   refine step_call (f:=108) (args:=#[.int .i64 rk]) hk hw ?_ ?_
   ·unfold execOp
    simp only [ho1]
    have xf:∀ f,A.eval (.func f) = .func (.func f) #[] #[]:=fun _=>rfl
    generalize A.eval=ρ at x19 xf ⊢
    simp [go_sem,xf,x19]
   ·refine (rnum14_any rk w).mono ?_
    rintro en w' ⟨rfl,hb'⟩
    exact⟨_,rfl,rfl,⟨grown_trans hC (grown_of_below hb' _),hM.under hb'⟩,fun j u _ _ _ _ h=>rrr_keep base bx BR rt rk rd va vc acc cells w1 j u w _ hb' h⟩
 | 8,_ =>
   have ho1:=opIs ho (p:=.fieldAddr 67 (.tmp 5) 2) (by kernel_rfl)
   have hg:=guardIs ho (p:=none) (by kernel_rfl)
   intro e A w hA hC hp hup K hk
   have hM:=hC.2 (hup 14 (by kernel_rfl))
   replace hC:=hC.1
   replace hk:Next (regOf Tryz.f109 5) (fun w=>(fun w=>w1.grownBy w (Value.slice va acc.length vc).ownBlock) w∧(fun w=>MakingB base bx acc va vc cells w) w) (rrrT base bx BR rt rk rd va vc acc cells w1) rrrD 8 e A w o.dst K:=hk.next fun v w h=>⟨h.1,fun _=>h.2⟩
   have hCM:=And.intro hC hM
   have x5:A.eval (.tmp 5) = .pointer (some ⟨BR,0,none⟩):=filled_base hA (by kernel_rfl) b5
   have hw:Region.wanted o (yielded (regOf Tryz.f109 5) A.tmps)=true:=wanted_free hg
   refine step_pure (v:=.pointer (some ⟨BR,2,none⟩)) hk hCM hw ?_ rfl
   unfold execOp
   simp only [ho1]
   generalize A.eval=ρ at x5 ⊢
   simp [go_sem,x5]
 | 9,_ =>
   have ho1:=opIs ho (p:=.load 9 (.tmp 21)) (by kernel_rfl)
   have hg:=guardIs ho (p:=none) (by kernel_rfl)
   intro e A w hA hC hp hup K hk
   have hM:=hC.2 (hup 14 (by kernel_rfl))
   replace hC:=hC.1
   replace hk:Next (regOf Tryz.f109 5) (fun w=>(fun w=>w1.grownBy w (Value.slice va acc.length vc).ownBlock) w∧(fun w=>MakingB base bx acc va vc cells w) w) (rrrT base bx BR rt rk rd va vc acc cells w1) rrrD 9 e A w o.dst K:=hk.next fun v w h=>⟨h.1,fun _=>h.2⟩
   have hCM:=And.intro hC hM
   have x21:A.eval (.tmp 21) = .pointer (some ⟨BR,2,none⟩):=op_tmp hA hp 21 8 (by kernel_rfl) (by kernel_rfl) (by kernel_rfl) (hz _ rfl)
   have hw:Region.wanted o (yielded (regOf Tryz.f109 5) A.tmps)=true:=wanted_free hg
   have e1:=(Lib.cell_of_heap ((hC.block BR hBRl hBRn).trans hBRo) 2).trans (show _=some (Value.string rd) from rfl)
   refine step_pure (v:=.string rd) hk hCM hw ?_ rfl
   unfold execOp
   simp only [ho1]
   generalize A.eval=ρ at x21 ⊢
   simp [go_sem,x21,e1]
 | 10,_ =>
   have ho1:=opIs ho (p:=.build 70 #[(0,(.const (.int .i64 2))),(2,(.tmp 22))]) (by kernel_rfl)
   have hg:=guardIs ho (p:=none) (by kernel_rfl)
   intro e A w hA hC hp hup K hk
   have hM:=hC.2 (hup 14 (by kernel_rfl))
   replace hC:=hC.1
   replace hk:Next (regOf Tryz.f109 5) (fun w=>(fun w=>w1.grownBy w (Value.slice va acc.length vc).ownBlock) w∧(fun w=>MakingB base bx acc va vc cells w) w) (rrrT base bx BR rt rk rd va vc acc cells w1) rrrD 10 e A w o.dst K:=hk.next fun v w h=>⟨h.1,fun _=>h.2⟩
   have hCM:=And.intro hC hM
   have x22:A.eval (.tmp 22) = .string rd:=op_tmp hA hp 22 9 (by kernel_rfl) (by kernel_rfl) (by kernel_rfl) (hz _ rfl)
   have hw:Region.wanted o (yielded (regOf Tryz.f109 5) A.tmps)=true:=wanted_free hg
   refine step_pure (v:=.agg #[.int .i64 2,.int .i64 0,.string rd,.slice none 0 0]) hk hCM hw ?_ rfl
   unfold execOp
   simp only [ho1]
   have xc:∀ v,A.eval (.const v)=v:=fun _=>rfl
   generalize A.eval=ρ at x22 xc ⊢
   simp [go_sem,x22,xc]
 | 11,_ =>
   have ho1:=opIs ho (p:=.buildSlice 68 3 #[(0,(.tmp 17)),(1,(.tmp 20)),(2,(.tmp 23))]) (by kernel_rfl)
   have hg:=guardIs ho (p:=none) (by kernel_rfl)
   intro e A w hA hC hp hup K hk
   have hM:=hC.2 (hup 14 (by kernel_rfl))
   replace hC:=hC.1
   replace hk:Next (regOf Tryz.f109 5) (fun w=>(fun w=>w1.grownBy w (Value.slice va acc.length vc).ownBlock) w∧(fun w=>MakingB base bx acc va vc cells w) w) (rrrT base bx BR rt rk rd va vc acc cells w1) rrrD 11 e A w o.dst K:=hk.next fun v w h=>⟨h.1,fun _=>h.2⟩
   have hCM:=And.intro hC hM
   have x17:A.eval (.tmp 17) = .agg #[.int .i64 1,.int .i64 rt,.string ⟨#[]⟩,.slice none 0 0]:=op_tmp hA hp 17 4 (by kernel_rfl) (by kernel_rfl) (by kernel_rfl) (hz _ rfl)
   have x20:A.eval (.tmp 20) = .agg #[.int .i64 1,.int .i64 rk,.string ⟨#[]⟩,.slice none 0 0]:=op_tmp hA hp 20 7 (by kernel_rfl) (by kernel_rfl) (by kernel_rfl) (hz _ rfl)
   have x23:A.eval (.tmp 23) = .agg #[.int .i64 2,.int .i64 0,.string rd,.slice none 0 0]:=op_tmp hA hp 23 10 (by kernel_rfl) (by kernel_rfl) (by kernel_rfl) (hz _ rfl)
   have hw:Region.wanted o (yielded (regOf Tryz.f109 5) A.tmps)=true:=wanted_free hg
   refine step_value (v:=.slice (some ⟨w.heap.size,0,none⟩) 3 3) (w':=w.alloc (.cells #[.int .i64 1,.int .i64 rt,.string ⟨#[]⟩,.slice none 0 0,.int .i64 1,.int .i64 rk,.string ⟨#[]⟩,.slice none 0 0,.int .i64 2,.int .i64 0,.string rd,.slice none 0 0] 70)) hk hw ?_ ?_ ?_ ?_
   ·unfold execOp
    simp only [ho1]
    generalize A.eval=ρ at x17 x20 x23 ⊢
    simp [go_sem,x17,x20,x23]
   ·exact⟨w.heap.size,rfl,hC.size,heap_alloc_new w _⟩
   ·exact⟨grown_trans hC (World.grownBy_alloc w _ _),hM.under ((Below.refl _ w).alloc (Nat.le_refl _) _)⟩
   ·intro j u _ _ _ _ h
    exact rrr_keep base bx BR rt rk rd va vc acc cells w1 j u w _ ((Below.refl _ w).alloc (Nat.le_refl _) _) h
 | 12,_ =>
   have ho1:=opIs ho (p:=.build 70 #[(0,(.const (.int .i64 3))),(3,(.tmp 24))]) (by kernel_rfl)
   have hg:=guardIs ho (p:=none) (by kernel_rfl)
   intro e A w hA hC hp hup K hk
   have hM:=hC.2 (hup 14 (by kernel_rfl))
   replace hC:=hC.1
   replace hk:Next (regOf Tryz.f109 5) (fun w=>(fun w=>w1.grownBy w (Value.slice va acc.length vc).ownBlock) w∧(fun w=>MakingB base bx acc va vc cells w) w) (rrrT base bx BR rt rk rd va vc acc cells w1) rrrD 12 e A w o.dst K:=hk.next fun v w h=>⟨h.1,fun _=>h.2⟩
   have hCM:=And.intro hC hM
   have x24:=op_tmp hA hp 24 11 (by kernel_rfl) (by kernel_rfl) (by kernel_rfl) (hz _ rfl)
   have hw:Region.wanted o (yielded (regOf Tryz.f109 5) A.tmps)=true:=wanted_free hg
   obtain⟨b,x24,h1,h2⟩:=x24
   refine step_pure (v:=.agg #[.int .i64 3,.int .i64 0,.string ⟨#[]⟩,.slice (some ⟨b,0,none⟩) 3 3]) hk hCM hw ?_ ⟨b,rfl,h1,h2⟩
   unfold execOp
   simp only [ho1]
   have xc:∀ v,A.eval (.const v)=v:=fun _=>rfl
   generalize A.eval=ρ at x24 xc ⊢
   simp [go_sem,x24,xc]
 | 13,_ =>
   have ho1:=opIs ho (p:=.buildSlice 68 1 #[(0,(.tmp 25))]) (by kernel_rfl)
   have hg:=guardIs ho (p:=none) (by kernel_rfl)
   intro e A w hA hC hp hup K hk
   have hM:=hC.2 (hup 14 (by kernel_rfl))
   replace hC:=hC.1
   replace hk:Next (regOf Tryz.f109 5) (fun w=>(fun w=>w1.grownBy w (Value.slice va acc.length vc).ownBlock) w∧(fun w=>MakingB base bx acc va vc cells w) w) (rrrT base bx BR rt rk rd va vc acc cells w1) rrrD 13 e A w o.dst K:=hk.next fun v w h=>⟨h.1,fun _=>h.2⟩
   have hCM:=And.intro hC hM
   have x25:=op_tmp hA hp 25 12 (by kernel_rfl) (by kernel_rfl) (by kernel_rfl) (hz _ rfl)
   have hw:Region.wanted o (yielded (regOf Tryz.f109 5) A.tmps)=true:=wanted_free hg
   obtain⟨b,x25,h1,h2⟩:=x25
   refine step_value (v:=.slice (some ⟨w.heap.size,0,none⟩) 1 1) (w':=w.alloc (.cells #[.int .i64 3,.int .i64 0,.string ⟨#[]⟩,.slice (some ⟨b,0,none⟩) 3 3] 70)) hk hw ?_ ?_ ?_ ?_
   ·unfold execOp
    simp only [ho1]
    generalize A.eval=ρ at x25 ⊢
    simp [go_sem,x25]
   ·exact⟨b,w.heap.size,rfl,⟨h1,(heap_alloc_old w _ (lt_of_block h2)).trans h2⟩,heap_alloc_new w _⟩
   ·exact⟨grown_trans hC (World.grownBy_alloc w _ _),hM.under ((Below.refl _ w).alloc (Nat.le_refl _) _)⟩
   ·intro j u _ _ _ _ h
    exact rrr_keep base bx BR rt rk rd va vc acc cells w1 j u w _ ((Below.refl _ w).alloc (Nat.le_refl _) _) h
 | 14,_ =>
   have ho1:=opIs ho (p:=.call { callee:=(.builtin .append),args:=#[(.tmp 14),(.tmp 26)],argTypes:=#[68,68] }) (by kernel_rfl)
   have hg:=guardIs ho (p:=none) (by kernel_rfl)
   intro e A w hA hC hp hup K hk
   have hM:=hC.2 (hup 14 (by kernel_rfl))
   have x14:A.eval (.tmp 14) = .slice va acc.length vc:=op_tmp hA hp 14 1 (by kernel_rfl) (by kernel_rfl) (by kernel_rfl) (hz _ rfl)
   have x26:=op_tmp hA hp 26 13 (by kernel_rfl) (by kernel_rfl) (by kernel_rfl) (hz _ rfl)
   have hw:Region.wanted o (yielded (regOf Tryz.f109 5) A.tmps)=true:=wanted_free hg
   obtain⟨b,c,x26,⟨h1,h2⟩,h3⟩:=x26
   have hat:V.At w (fun p=>w1.heap.size≤p∧p<w.heap.size) (recV ⟨rt,rk,rd⟩) [.int .i64 3,.int .i64 0,.string ⟨#[]⟩,.slice (some ⟨b,0,none⟩) 3 3]:=by
    simp only [recV,listV,numV,textV,V.At,VAll]
    refine⟨some ⟨b,0,none⟩,3,rfl,Nat.le_refl _,(fun e=>by cases e),⟨b,0,[.int .i64 1,.int .i64 rt,.string ⟨#[]⟩,.slice none 0 0],rfl,⟨h1,lt_of_block h2⟩,⟨none,0,rfl,Nat.le_refl _,fun _=>rfl,trivial⟩,fun j u hj=>?_⟩,⟨b,0,[.int .i64 1,.int .i64 rk,.string ⟨#[]⟩,.slice none 0 0],rfl,⟨h1,lt_of_block h2⟩,⟨none,0,rfl,Nat.le_refl _,fun _=>rfl,trivial⟩,fun j u hj=>?_⟩,⟨b,0,[.int .i64 2,.int .i64 0,.string rd,.slice none 0 0],rfl,⟨h1,lt_of_block h2⟩,⟨none,0,rfl,Nat.le_refl _,fun _=>rfl,trivial⟩,fun j u hj=>?_⟩,trivial⟩
    ·match j,hj with
     | 0,hj=>exact (Lib.cell_of_heap h2 _).trans hj
     | 1,hj=>exact (Lib.cell_of_heap h2 _).trans hj
     | 2,hj=>exact (Lib.cell_of_heap h2 _).trans hj
     | 3,hj=>exact (Lib.cell_of_heap h2 _).trans hj
    ·match j,hj with
     | 0,hj=>exact (Lib.cell_of_heap h2 _).trans hj
     | 1,hj=>exact (Lib.cell_of_heap h2 _).trans hj
     | 2,hj=>exact (Lib.cell_of_heap h2 _).trans hj
     | 3,hj=>exact (Lib.cell_of_heap h2 _).trans hj
    ·match j,hj with
     | 0,hj=>exact (Lib.cell_of_heap h2 _).trans hj
     | 1,hj=>exact (Lib.cell_of_heap h2 _).trans hj
     | 2,hj=>exact (Lib.cell_of_heap h2 _).trans hj
     | 3,hj=>exact (Lib.cell_of_heap h2 _).trans hj
   have hrw:RowOf w (fun p=>w1.heap.size≤p∧p<w.heap.size) [recV ⟨rt,rk,rd⟩] [.int .i64 3,.int .i64 0,.string ⟨#[]⟩,.slice (some ⟨b,0,none⟩) 3 3]:=by have:=RowOf.snoc RowOf.nil hat; exact this
   obtain⟨a3,c3,cells3,w',hr,hg,hmade⟩:=makingB_append hM [recV ⟨rt,rk,rd⟩] _ 1 c w1.heap.size _ 68 o.type hV h3 rfl hrw hbw hvl (by decide) (by decide) hn
   rw [if_pos hw]
   unfold Oper.wp
   rw [show (execOp A.eval o).run Tryz.prog w = .ok (.value (.slice a3 (acc.length+[recV ⟨rt,rk,rd⟩].length) c3)) w' by
    unfold execOp
    simp only [ho1,resolve,invoke,builtin,Sem.run_bind,Sem.run_pure,Result.andThen_ok,List.map_toArray,List.map_cons,List.map_nil,x14,x26,hr]]
   have hown:∀ p,w1.heap.size≤p→some p≠(Value.slice va acc.length vc).ownBlock:=fun p hp e=>by have:=hvl p e.symm; omega
   refine hk _ _ ⟨a3,c3,cells3,rfl,hmade⟩ ⟨grown_trans hC.1 hg,fun h=>by rw [Vals.set_same] at h; cases h⟩ ?_
   intro j u hj hji _ hd h
   match j,h with
   | 0,h=>exact h
   | 1,h=>exact h
   | 2,h=>exact h
   | 3,h=>exact h
   | 4,h=>exact h
   | 5,h=>exact h
   | 6,h=>exact h
   | 7,h=>exact h
   | 8,h=>exact h
   | 9,h=>exact h
   | 10,h=>exact h
   | 11,h=>obtain⟨b,rfl,h1,h2⟩:=h; exact⟨b,rfl,h1,(hg.block _ (lt_of_block h2) (hown _ h1)).trans h2⟩
   | 12,h=>obtain⟨b,rfl,h1,h2⟩:=h; exact⟨b,rfl,h1,(hg.block _ (lt_of_block h2) (hown _ h1)).trans h2⟩
   | 13,h=>exact absurd rfl (hd 14 (by rw [hsz]; decide) rfl).1
   | 14,h=>exact absurd rfl hji
   | 15,h=>exact h
   | _+16,h=>trivial
 | 15,_ =>
   have ho1:=opIs ho (p:=.fieldAddr 70 (.tmp 3) 3) (by kernel_rfl)
   have hg:=guardIs ho (p:=none) (by kernel_rfl)
   intro e A w hA hC hp hup K hk
   replace hk:Next (regOf Tryz.f109 5) (fun w=>(fun w=>w1.grownBy w (Value.slice va acc.length vc).ownBlock) w∧(e 14=none→(fun w=>MakingB base bx acc va vc cells w) w)) (rrrT base bx BR rt rk rd va vc acc cells w1) rrrD 15 e A w o.dst K:=hk.next fun v w h=>⟨h.1,fun he=>h.2 (by rwa [Vals.set_other e v (by decide)] at he)⟩
   have hCM:=hC
   have x3:A.eval (.tmp 3) = .pointer (some ⟨bx,0,none⟩):=filled_base hA (by kernel_rfl) b3
   have hw:Region.wanted o (yielded (regOf Tryz.f109 5) A.tmps)=true:=wanted_free hg
   refine step_pure (v:=.pointer (some ⟨bx,3,none⟩)) hk hCM hw ?_ rfl
   unfold execOp
   simp only [ho1]
   generalize A.eval=ρ at x3 ⊢
   simp [go_sem,x3]
 | _+16,h=>exact absurd h (by omega)
set_option maxRecDepth 100000 in
set_option maxHeartbeats 2000000 in
theorem rrecs_any (a:Option Addr) (n c:Nat) (rs:List Rc) (w:World) (H:rcE.Sl w a n rs) (hn:n≤200) :
 Calls Tryz.prog 109 #[.slice a n c] w (fun e w'=>∃ ra rc,e = .returned (.agg #[.int .i64 3,.int .i64 0,.string ⟨#[]⟩,.slice ra n rc])∧V.At w' (fun p=>w.heap.size≤p∧p<w'.heap.size) (listV (rs.map recV)) [.int .i64 3,.int .i64 0,.string ⟨#[]⟩,.slice ra n rc]∧Below w.heap.size w w'):=by
 have HN:=Lib.hid (show n=rs.length from H.1)
 replace H:=Lib.hid H
 have HB0:=Lib.hid (((Below.refl _ w).alloc (Nat.le_refl _) (.cells #[.int .i64 0,.int .i64 0,.string ⟨#[]⟩,.slice none 0 0] 70)).alloc (by simp) (.cells #[.int .i64 3,.int .i64 0,.string ⟨#[]⟩,.slice none 0 0] 70))
 have HK0:=Lib.hid (Blk.both w (.cells #[.int .i64 0,.int .i64 0,.string ⟨#[]⟩,.slice none 0 0] 70) (.cells #[.int .i64 3,.int .i64 0,.string ⟨#[]⟩,.slice none 0 0] 70) _ _ [.int .i64 0,.int .i64 0,.string ⟨#[]⟩,.slice none 0 0] [.int .i64 3,.int .i64 0,.string ⟨#[]⟩,.slice none 0 0] rfl rfl).1
 have HF0:=Lib.hid (Blk.both w (.cells #[.int .i64 0,.int .i64 0,.string ⟨#[]⟩,.slice none 0 0] 70) (.cells #[.int .i64 3,.int .i64 0,.string ⟨#[]⟩,.slice none 0 0] 70) _ _ [.int .i64 0,.int .i64 0,.string ⟨#[]⟩,.slice none 0 0] [.int .i64 3,.int .i64 0,.string ⟨#[]⟩,.slice none 0 0] rfl rfl).2
 have HS0:Hid (((w.alloc (.cells #[.int .i64 0,.int .i64 0,.string ⟨#[]⟩,.slice none 0 0] 70)).alloc (.cells #[.int .i64 3,.int .i64 0,.string ⟨#[]⟩,.slice none 0 0] 70)).heap.size=w.heap.size+2):=Lib.hid (by simp)
 go_enter Tryz.func109,Tryz.ntmps109
 go_upto_region 2 with fail
 generalize ((w.alloc (.cells #[.int .i64 0,.int .i64 0,.string ⟨#[]⟩,.slice none 0 0] 70)).alloc (.cells #[.int .i64 3,.int .i64 0,.string ⟨#[]⟩,.slice none 0 0] 70))=w0 at *
 have hs0:=HS0.out
 have HM0:Hid (MakingB w0.heap.size (w.heap.size+1) [] none 0 [] w0):=Lib.hid (MakingB.start _ _ _ (by omega) (Nat.le_refl _) HF0.out)
 go_wp2_with fail
 go_loopg [9] n (fun gk v wr=>∃ (k:Nat) (acc:List V) (va:Option Addr) (vc:Nat) (cells:List Value),k≤n∧gk=n - k∧v = .int .i64 (k:Int)∧Hid (acc=(rs.take k).map recV)∧Hid (MakingB w0.heap.size (w.heap.size+1) acc va vc cells wr)∧Hid (KeptB w0.heap.size (w.heap.size+1) w0 wr))
 case atStart=>exact⟨0,[],none,0,[],Nat.zero_le _,rfl,rfl,Lib.hid rfl,HM0,Lib.hid (KeptB.refl _ _ _)⟩
 case round =>
  clear HM0
  obtain⟨k,acc,va,vc,cells,hk,rfl,rfl,HACC,hM,hKP⟩:=hrel
  have HL:Hid (acc.length=k):=Lib.hid (by rw [HACC.out,List.length_map,List.length_take]; have:=HN.out; omega)
  have HBr:=Lib.hid (HB0.out.trans (hKP.out.below (B:=w.heap.size) (by omega) (by omega)))
  by_cases hkn:k<n
  ·have hki:(k:Int)<(n:Int):=by omega
   have hkl:k<rs.length:=by rw [← HN.out]; exact hkn
   obtain⟨b,off,rfl,hc⟩:=rc_at (H.out.keep HBr.out) (by omega)
   obtain⟨c0,c1,c2⟩:=hc k hkl
   have HLI:Hid (acc.length≤200):=Lib.hid (by have:=HL.out; omega)
   have HMT:Hid (acc++[recV rs[k]]=(rs.take (k+1)).map recV):=Lib.hid (by rw [HACC.out,List.take_add_one,List.getElem?_eq_getElem hkl,List.map_append]; rfl)
   clear hc
   generalize rs[k]=r at *
   obtain⟨rt,rk,rd⟩:=r
   dsimp only at c0 c1 c2
   have hbq:Below wr.heap.size wr (wr.alloc (.cells #[.int .i64 rt,.int .i64 rk,.string rd] 67)):=(Below.refl _ wr).alloc (Nat.le_refl _) _
   have HMq:=Lib.hid (hM.out.under hbq)
   have KPq:=Lib.hid (hKP.out.under hbq hM.out.le)
   have HRq:Hid ((wr.alloc (.cells #[.int .i64 rt,.int .i64 rk,.string rd] 67)).heap[wr.heap.size]? = some (.cells #[.int .i64 rt,.int .i64 rk,.string rd] 67 (0,0))):=Lib.hid (heap_alloc_new wr _)
   have HOL:=Lib.hid hM.out.own.lt
   have hsq:wr.heap.size<(wr.alloc (.cells #[.int .i64 rt,.int .i64 rk,.string rd] 67)).heap.size:=by simp
   have HSQ:=Lib.hid hsq
   clear hbq hM hKP hsq
   go_wp2_with fail
   clear c0 c1 c2
   generalize (wr.alloc (.cells #[.int .i64 rt,.int .i64 rk,.string rd] 67))=wq at *
   refine wp_region_lastE (regOf Tryz.f109 5) [some 13,some 14,some 15,some 16,some 17,some 18,some 19,some 20,some 21,some 22,some 23,some 24,some 25,some 26,some 27,some 28] 16 (rrrT w0.heap.size ((w.heap.size+1)) wr.heap.size rt rk rd va vc acc cells wq) (fun e w'=>(wq.grownBy w' (Value.slice va acc.length vc).ownBlock)∧(e 14=none→MakingB w0.heap.size ((w.heap.size+1)) acc va vc cells w')) rrrD (by kernel_rfl) (by kernel_rfl) (by kernel_rfl) (by kernel_rfl) (by kernel_rfl) (by kernel_rfl) (by kernel_rfl) ⟨grown_of_below ((Below.refl _ _).drew) _,fun _=>HMq.out.under ((Below.refl _ _).drew)⟩
    (rrr_steps w0.heap.size ((w.heap.size+1)) wr.heap.size rt rk rd va vc acc cells wq (HMq.out.le) (HSQ.out) (fun e=>by have:=(HOL.out _ e.symm).2; omega) HRq.out (fun k hk=>(HMq.out.own.lt k hk).2) (by have:=HLI.out; omega) (by kernel_rfl) (by kernel_rfl) (by kernel_rfl) (by kernel_rfl)) ?_
   intro oL hoL eL vs w11 hn hallL hCw11 hT KL hKL
   replace hn:vs.length=16:=hn
   obtain⟨v0,vs1,rfl,hn1⟩:=len_cons hn
   obtain⟨v1,vs2,rfl,hn2⟩:=len_cons hn1
   obtain⟨v2,vs3,rfl,hn3⟩:=len_cons hn2
   obtain⟨v3,vs4,rfl,hn4⟩:=len_cons hn3
   obtain⟨v4,vs5,rfl,hn5⟩:=len_cons hn4
   obtain⟨v5,vs6,rfl,hn6⟩:=len_cons hn5
   obtain⟨v6,vs7,rfl,hn7⟩:=len_cons hn6
   obtain⟨v7,vs8,rfl,hn8⟩:=len_cons hn7
   obtain⟨v8,vs9,rfl,hn9⟩:=len_cons hn8
   obtain⟨v9,vs10,rfl,hn10⟩:=len_cons hn9
   obtain⟨v10,vs11,rfl,hn11⟩:=len_cons hn10
   obtain⟨v11,vs12,rfl,hn12⟩:=len_cons hn11
   obtain⟨v12,vs13,rfl,hn13⟩:=len_cons hn12
   obtain⟨v13,vs14,rfl,hn14⟩:=len_cons hn13
   obtain⟨v14,vs15,rfl,hn15⟩:=len_cons hn14
   obtain⟨v15,vs16,rfl,hn16⟩:=len_cons hn15
   obtain rfl:=List.eq_nil_of_length_eq_zero hn16
   clear hn hn1 hn2 hn3 hn4 hn5 hn6 hn7 hn8 hn9 hn10 hn11 hn12 hn13 hn14 hn15 hn16
   obtain rfl:v0 = .pointer (some ⟨(w.heap.size+1),3,none⟩):=hT 0 v0 rfl (by kernel_rfl)
   obtain rfl:v1 = .slice va acc.length vc:=hT 1 v1 rfl (by kernel_rfl)
   obtain rfl:v2 = .pointer (some ⟨wr.heap.size,0,none⟩):=hT 2 v2 rfl (by kernel_rfl)
   obtain rfl:v3 = .int .i64 rt:=hT 3 v3 rfl (by kernel_rfl)
   obtain rfl:v4 = .agg #[.int .i64 1,.int .i64 rt,.string ⟨#[]⟩,.slice none 0 0]:=hT 4 v4 rfl (by kernel_rfl)
   obtain rfl:v5 = .pointer (some ⟨wr.heap.size,1,none⟩):=hT 5 v5 rfl (by kernel_rfl)
   obtain rfl:v6 = .int .i64 rk:=hT 6 v6 rfl (by kernel_rfl)
   obtain rfl:v7 = .agg #[.int .i64 1,.int .i64 rk,.string ⟨#[]⟩,.slice none 0 0]:=hT 7 v7 rfl (by kernel_rfl)
   obtain rfl:v8 = .pointer (some ⟨wr.heap.size,2,none⟩):=hT 8 v8 rfl (by kernel_rfl)
   obtain rfl:v9 = .string rd:=hT 9 v9 rfl (by kernel_rfl)
   obtain rfl:v10 = .agg #[.int .i64 2,.int .i64 0,.string rd,.slice none 0 0]:=hT 10 v10 rfl (by kernel_rfl)
   have t11:=Lib.hid (hT 11 v11 rfl (by kernel_rfl))
   have t12:=Lib.hid (hT 12 v12 rfl (by kernel_rfl))
   have t14:=Lib.hid (hT 14 v14 rfl (by kernel_rfl))
   obtain rfl:v15 = .pointer (some ⟨(w.heap.size+1),3,none⟩):=hT 15 v15 rfl (by kernel_rfl)
   clear hT
   have hoL1:=opIs hoL (p:=.store 68 (.tmp 28) (.tmp 27)) (by kernel_rfl)
   have hgL:=guardIs hoL (p:=none) (by kernel_rfl)
   have hdL:oL.dst=none:=by have:=(show ((regOf Tryz.f109 5)[16]?).map (·.dst)=some (none) by kernel_rfl); rw [hoL] at this; simpa using this
   rw [if_pos (wanted_free hgL)]
   rw [hdL] at hKL
   simp only [puts,Act.put,List.setIfInBounds_toArray,List.set_cons_succ,List.set_cons_zero] at hKL ⊢
   obtain⟨hC9,-⟩:=hCw11
   obtain⟨a3,c3,cells3,e11,hmade⟩:=t14.out
   subst e11
   have e3:=hmade.box.c3
   have k3:=hmade.box.free 3
   unfold Oper.wp
   rw [show (execOp _ oL).run Tryz.prog w11 = .ok .skip (w11.setCell ⟨(w.heap.size+1),3,none⟩ (.slice a3 (acc.length+[recV ⟨rt,rk,rd⟩].length) c3)) by unfold execOp; simp only [hoL1]; simp [go_sem,e3,k3]]
   show KL (Act.put _ oL.dst undef) _
   rw [hdL]
   refine hKL undef _ ?_
   have HMK:=Lib.hid hmade.store
   have HKN:=Lib.hid ((KPq.out.grown hC9 (by have:=HMq.out.le; omega) (fun k hk=>.inl (HMq.out.own.lt k hk).1)).grown (grown_setCell w11 ((w.heap.size+1)) 3 (.slice a3 (acc.length+[recV ⟨rt,rk,rd⟩].length) c3)) (by have:=hC9.size; have:=HMq.out.le; omega) (fun k hk=>.inr (Option.some.inj hk).symm))
   clear e3 k3 hmade t11 t12 t14 hC9 hKL hoL hoL1 hgL hdL hallL
   generalize w11.setCell ⟨(w.heap.size+1),3,none⟩ (.slice a3 (acc.length+[recV ⟨rt,rk,rd⟩].length) c3)=w12 at *
   go_wp2_with fail
   go_roundg (n - (k+1))
   case rel=>exact⟨k+1,_,a3,c3,cells3,by omega,rfl,by go_num,HMT,HMK,HKN⟩
   case measure=>omega
  ·obtain rfl:k=n:=by omega
   have HACR:Hid (acc=rs.map recV):=Lib.hid (by rw [HACC.out,HN.out,List.take_length])
   have HLN:=Lib.hid (show acc.length=k from HL.out)
   have HKz:=Lib.hid (show Blk wr w.heap.size _ _ from (hKP.out.block _ (by omega) (by omega)).trans HK0.out)
   have z0:=hM.out.box.c0
   have z1:=hM.out.box.c1
   have z2:=hM.out.box.c2
   have z3:=hM.out.box.c3
   have q0:=HKz.out.cell (j:=0) rfl
   have q1:=HKz.out.cell (j:=1) rfl
   have q2:=HKz.out.cell (j:=2) rfl
   have q3:=HKz.out.cell (j:=3) rfl
   have f0:=HKz.out.free 0
   have f1:=HKz.out.free 1
   have f2:=HKz.out.free 2
   have f3:=HKz.out.free 3
   go_wp2_with fail
   have hz9:=(((HKz.out.set 0 (.int .i64 3)).set 1 (.int .i64 0)).set 2 (.string ⟨#[]⟩)).set 3 (.slice va acc.length vc)
   have hg9:=grown_trans (grown_trans (grown_trans (grown_setCell wr w.heap.size 0 (.int .i64 3)) (grown_setCell _ w.heap.size 1 (.int .i64 0))) (grown_setCell _ w.heap.size 2 (.string ⟨#[]⟩))) (grown_setCell _ w.heap.size 3 (.slice va acc.length vc))
   have HB9:=Lib.hid (HBr.out.grown hg9 HBr.out.size (fun q e=>by have:=Option.some.inj e; omega))
   have HAT:=Lib.hid hM.out.at
   refine bodyPost_ret (v:=.agg #[.int .i64 3,.int .i64 0,.string ⟨#[]⟩,.slice va acc.length vc]) ?_ rfl ?_
   ·exact results_cell_row (p:=2) rfl _ _ w.heap.size 70 _ (0,0) _ rfl hz9 Tryz.underlying70 rfl (by kernel_rfl)
   ·rw [← HACR.out]
    refine⟨va,vc,by rw [HLN.out],?_,HB9.out⟩
    rw [← HLN.out]
    exact V.At.move (fun p hp=>⟨by have:=hp.1; omega,Nat.lt_of_lt_of_le hp.2 hg9.size⟩) (fun p hp=>hg9.block p hp.2 (fun e=>by have:=Option.some.inj e; have:=hp.1; omega)) _ _ HAT.out
end Go.Proofs.YtlpgbmaoenncjaaGreatDoor

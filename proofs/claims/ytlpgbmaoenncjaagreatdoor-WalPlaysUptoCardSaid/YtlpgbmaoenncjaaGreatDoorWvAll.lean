/-
  The walks of wal.num, wal.records, and of the reference's: a list value of records; at most 200 of them. (Written by wip/mkwv.py.)
  The regions of wal.value and of the reference's Bytes. (Written by wip/mkwv.py.)
  The walks of wal.value, wal.Put and wal.Right: a state's value, and its bytes, or why it has none. (Written by wip/mkwp.py.)
  The region of the reference's Bytes that writes a state. (Written by wip/mkwv.py.)
  How deep a value is, and whether all within it may be; code.Right by these. Without a condition.
  The walks of hornbookref01's Many and Deep. (Written by wip/mkrw.py.)
  The walks of hornbookref01's shaped and Right. (Written by wip/mkrwb.py.)
  The walk of hornbookref01.Right: it tells what code.Right tells.
  The walk of hornbookref01.Bytes: the bytes of any value; as long as they are at most 2^47. (Written by wip/mkrbytes.py.)
  The walk of hornbookref01.Bytes: a list, and any value; as long as its bytes are at most 2^47. (Written by wip/mkrbl.py.)
  The walk of hornbookref01.Put: the bytes of any value, or why it is refused, are those of code.Put; as long as what is written has at most 2^47 bytes, and the value at most 2^61 values within it.
  The walks of the reference's Bytes and Right: a state's bytes, or that it may not be. (Written by wip/mkwq.py.)
-/
import Derived.Test.YtlpgbmaoenncjaaGreatDoorWkA
import Derived.Test.YtlpgbmaoenncjaaGreatDoorShelf
import Derived.Test.YtlpgbmaoenncjaaGreatDoorPvs
import Derived.Test.YtlpgbmaoenncjaaGreatDoorCvAll
import Derived.Test.YtlpgbmaoenncjaaGreatDoorNmAll
namespace Go.Proofs.YtlpgbmaoenncjaaGreatDoor
open Go.RowKit
set_option linter.unusedVariables false
theorem wnum_any (n:Int) (w:World):Calls Tryz.prog 54 #[.int .i64 n] w (fun e w'=>e = .returned (.agg #[.int .i64 1,.int .i64 n,.string ⟨#[]⟩,.slice none 0 0])∧Below w.heap.size w w'):=by
 go_enter Tryz.func54,Tryz.ntmps54
 go_wp2_with fail
 refine bodyPost_ret (v:=.agg #[.int .i64 1,.int .i64 n,.string ⟨#[]⟩,.slice none 0 0]) ?_ rfl ?_
 ·exact results_cell_row (p:=2) rfl _ _ w.heap.size 70 _ (0,0) _ rfl (heap_alloc_new w _) Tryz.underlying70 rfl (by kernel_rfl)
 ·exact⟨rfl,(Below.refl _ w).alloc (Nat.le_refl _) _⟩
def wrrT (base bx BR:Nat) (rt rk:Int) (rd:ByteArray) (va:Option Addr) (vc:Nat) (acc:List V) (cells:List Value) (w1:World):Nat→Value→World→Prop
 | 0,v,w=>v = .pointer (some ⟨bx,3,none⟩)
 | 1,v,w=>v = .slice va acc.length vc
 | 2,v,w=>v = .pointer (some ⟨BR,0,none⟩)
 | 3,v,w=>v = .int .i64 rt
 | 4,v,w=>v = .agg #[.int .i64 1,.int .i64 rt,.string ⟨#[]⟩,.slice none 0 0]
 | 5,v,w=>v = .pointer (some ⟨BR,1,none⟩)
 | 6,v,w=>v = .int .i64 rk
 | 7,v,w=>v = .agg #[.int .i64 1,.int .i64 rk,.string ⟨#[]⟩,.slice none 0 0]
 | 8,v,w=>v = .pointer (some ⟨BR,2,none⟩)
 | 9,v,w=>v = .string rd
 | 10,v,w=>v = .agg #[.int .i64 2,.int .i64 0,.string rd,.slice none 0 0]
 | 11,v,w=>∃ b,v = .slice (some ⟨b,0,none⟩) 3 3∧w1.heap.size≤b∧w.heap[b]? = some (.cells #[.int .i64 1,.int .i64 rt,.string ⟨#[]⟩,.slice none 0 0,.int .i64 1,.int .i64 rk,.string ⟨#[]⟩,.slice none 0 0,.int .i64 2,.int .i64 0,.string rd,.slice none 0 0] 70 (0,0))
 | 12,v,w=>∃ b,v = .agg #[.int .i64 3,.int .i64 0,.string ⟨#[]⟩,.slice (some ⟨b,0,none⟩) 3 3]∧w1.heap.size≤b∧w.heap[b]? = some (.cells #[.int .i64 1,.int .i64 rt,.string ⟨#[]⟩,.slice none 0 0,.int .i64 1,.int .i64 rk,.string ⟨#[]⟩,.slice none 0 0,.int .i64 2,.int .i64 0,.string rd,.slice none 0 0] 70 (0,0))
 | 13,v,w=>∃ b c,v = .slice (some ⟨c,0,none⟩) 1 1∧(w1.heap.size≤b∧w.heap[b]? = some (.cells #[.int .i64 1,.int .i64 rt,.string ⟨#[]⟩,.slice none 0 0,.int .i64 1,.int .i64 rk,.string ⟨#[]⟩,.slice none 0 0,.int .i64 2,.int .i64 0,.string rd,.slice none 0 0] 70 (0,0)))∧w.heap[c]? = some (.cells #[.int .i64 3,.int .i64 0,.string ⟨#[]⟩,.slice (some ⟨b,0,none⟩) 3 3] 70 (0,0))
 | 14,v,w=>∃ a3 c3 cells3,v = .slice a3 (acc.length+[recV ⟨rt,rk,rd⟩].length) c3∧MadeB base bx acc [recV ⟨rt,rk,rd⟩] va vc a3 c3 cells3 w
 | 15,v,w=>v = .pointer (some ⟨bx,3,none⟩)
 | _,_,_=>True
def wrrD:Nat→List Nat
 | 14=>[13]
 | _=>[]
theorem wrr_keep (base bx BR:Nat) (rt rk:Int) (rd:ByteArray) (va:Option Addr) (vc:Nat) (acc:List V) (cells:List Value) (w1:World):∀ (j:Nat) (u:Value) (w w':World),Below w.heap.size w w'→(wrrT base bx BR rt rk rd va vc acc cells w1) j u w→(wrrT base bx BR rt rk rd va vc acc cells w1) j u w'
 | 11,u,w,w',hb,h=>by obtain⟨b,rfl,h1,h2⟩:=h; exact⟨b,rfl,h1,(hb.block _ (lt_of_block h2)).trans h2⟩
 | 12,u,w,w',hb,h=>by obtain⟨b,rfl,h1,h2⟩:=h; exact⟨b,rfl,h1,(hb.block _ (lt_of_block h2)).trans h2⟩
 | 13,u,w,w',hb,h=>by obtain⟨b,c,rfl,⟨h1,h2⟩,h3⟩:=h; exact⟨b,c,rfl,⟨h1,(hb.block _ (lt_of_block h2)).trans h2⟩,(hb.block _ (lt_of_block h3)).trans h3⟩
 | 14,u,w,w',hb,h=>by obtain⟨a3,c3,cells3,rfl,h1⟩:=h; exact⟨a3,c3,cells3,rfl,h1.under hb⟩
 | 0,u,w,w',hb,h=>h
 | 1,u,w,w',hb,h=>h
 | 2,u,w,w',hb,h=>h
 | 3,u,w,w',hb,h=>h
 | 4,u,w,w',hb,h=>h
 | 5,u,w,w',hb,h=>h
 | 6,u,w,w',hb,h=>h
 | 7,u,w,w',hb,h=>h
 | 8,u,w,w',hb,h=>h
 | 9,u,w,w',hb,h=>h
 | 10,u,w,w',hb,h=>h
 | 15,u,w,w',hb,h=>h
 | _+16,u,w,w',hb,h=>trivial
set_option maxHeartbeats 4000000 in
theorem wrr_steps (base bx BR:Nat) (rt rk:Int) (rd:ByteArray) (va:Option Addr) (vc:Nat) (acc:List V) (cells:List Value) (w1:World) (hbw:base≤w1.heap.size) (hBRl:BR<w1.heap.size) (hBRn:some BR≠(Value.slice va acc.length vc).ownBlock) (hBRo:w1.heap[BR]? = some (.cells #[.int .i64 rt,.int .i64 rk,.string rd] 67 (0,0))) (hvl:∀ k,(Value.slice va acc.length vc).ownBlock=some k→k<w1.heap.size) (hn:acc.length≤1000000) (hV:Tryz.prog.underlying 68 = some (.slice 70)) {a:Act}(hs:a.tmps.size=31) (b3:a.eval (.tmp 3) = .pointer (some ⟨bx,0,none⟩)) (b5:a.eval (.tmp 5) = .pointer (some ⟨BR,0,none⟩)):∀ i o,i<16→(regOf Tryz.f55 5)[i]? = some o→StepOkE Tryz.prog (regOf Tryz.f55 5) a (fun e w=>(fun w=>w1.grownBy w (Value.slice va acc.length vc).ownBlock) w∧(e 14=none→(fun w=>MakingB base bx acc va vc cells w) w)) (wrrT base bx BR rt rk rd va vc acc cells w1) wrrD i o:=by
 have hz:∀ t,Nat.blt t 31=true→Nat.blt t a.tmps.size=true:=fun t h=>by rw [hs]; exact h
 have hsz:(regOf Tryz.f55 5).size=17:=by kernel_rfl
 intro i o hii ho
 match i,hii with
 | 0,_ =>
   have ho1:=opIs ho (p:=.fieldAddr 70 (.tmp 3) 3) (by kernel_rfl)
   have hg:=guardIs ho (p:=none) (by kernel_rfl)
   intro e A w hA hC hp hup K hk
   have hM:=hC.2 (hup 14 (by kernel_rfl))
   replace hC:=hC.1
   replace hk:Next (regOf Tryz.f55 5) (fun w=>(fun w=>w1.grownBy w (Value.slice va acc.length vc).ownBlock) w∧(fun w=>MakingB base bx acc va vc cells w) w) (wrrT base bx BR rt rk rd va vc acc cells w1) wrrD 0 e A w o.dst K:=hk.next fun v w h=>⟨h.1,fun _=>h.2⟩
   have hCM:=And.intro hC hM
   have x3:A.eval (.tmp 3) = .pointer (some ⟨bx,0,none⟩):=filled_base hA (by kernel_rfl) b3
   have hw:Region.wanted o (yielded (regOf Tryz.f55 5) A.tmps)=true:=wanted_free hg
   refine step_pure (v:=.pointer (some ⟨bx,3,none⟩)) hk hCM hw ?_ rfl
   unfold execOp
   simp only [ho1]
   generalize A.eval=ρ at x3 ⊢
   simp [go_sem,x3]
 | 1,_ =>
   have ho1:=opIs ho (p:=.load 68 (.tmp 13)) (by kernel_rfl)
   have hg:=guardIs ho (p:=none) (by kernel_rfl)
   intro e A w hA hC hp hup K hk
   have hM:=hC.2 (hup 14 (by kernel_rfl))
   replace hC:=hC.1
   replace hk:Next (regOf Tryz.f55 5) (fun w=>(fun w=>w1.grownBy w (Value.slice va acc.length vc).ownBlock) w∧(fun w=>MakingB base bx acc va vc cells w) w) (wrrT base bx BR rt rk rd va vc acc cells w1) wrrD 1 e A w o.dst K:=hk.next fun v w h=>⟨h.1,fun _=>h.2⟩
   have hCM:=And.intro hC hM
   have x13:A.eval (.tmp 13) = .pointer (some ⟨bx,3,none⟩):=op_tmp hA hp 13 0 (by kernel_rfl) (by kernel_rfl) (by kernel_rfl) (hz _ rfl)
   have hw:Region.wanted o (yielded (regOf Tryz.f55 5) A.tmps)=true:=wanted_free hg
   have e1:=hM.box.c3
   refine step_pure (v:=.slice va acc.length vc) hk hCM hw ?_ rfl
   unfold execOp
   simp only [ho1]
   generalize A.eval=ρ at x13 ⊢
   simp [go_sem,x13,e1]
 | 2,_ =>
   have ho1:=opIs ho (p:=.fieldAddr 67 (.tmp 5) 0) (by kernel_rfl)
   have hg:=guardIs ho (p:=none) (by kernel_rfl)
   intro e A w hA hC hp hup K hk
   have hM:=hC.2 (hup 14 (by kernel_rfl))
   replace hC:=hC.1
   replace hk:Next (regOf Tryz.f55 5) (fun w=>(fun w=>w1.grownBy w (Value.slice va acc.length vc).ownBlock) w∧(fun w=>MakingB base bx acc va vc cells w) w) (wrrT base bx BR rt rk rd va vc acc cells w1) wrrD 2 e A w o.dst K:=hk.next fun v w h=>⟨h.1,fun _=>h.2⟩
   have hCM:=And.intro hC hM
   have x5:A.eval (.tmp 5) = .pointer (some ⟨BR,0,none⟩):=filled_base hA (by kernel_rfl) b5
   have hw:Region.wanted o (yielded (regOf Tryz.f55 5) A.tmps)=true:=wanted_free hg
   refine step_pure (v:=.pointer (some ⟨BR,0,none⟩)) hk hCM hw ?_ rfl
   unfold execOp
   simp only [ho1]
   generalize A.eval=ρ at x5 ⊢
   simp [go_sem,x5]
 | 3,_ =>
   have ho1:=opIs ho (p:=.load 3 (.tmp 15)) (by kernel_rfl)
   have hg:=guardIs ho (p:=none) (by kernel_rfl)
   intro e A w hA hC hp hup K hk
   have hM:=hC.2 (hup 14 (by kernel_rfl))
   replace hC:=hC.1
   replace hk:Next (regOf Tryz.f55 5) (fun w=>(fun w=>w1.grownBy w (Value.slice va acc.length vc).ownBlock) w∧(fun w=>MakingB base bx acc va vc cells w) w) (wrrT base bx BR rt rk rd va vc acc cells w1) wrrD 3 e A w o.dst K:=hk.next fun v w h=>⟨h.1,fun _=>h.2⟩
   have hCM:=And.intro hC hM
   have x15:A.eval (.tmp 15) = .pointer (some ⟨BR,0,none⟩):=op_tmp hA hp 15 2 (by kernel_rfl) (by kernel_rfl) (by kernel_rfl) (hz _ rfl)
   have hw:Region.wanted o (yielded (regOf Tryz.f55 5) A.tmps)=true:=wanted_free hg
   have e1:=(Lib.cell_of_heap ((hC.block BR hBRl hBRn).trans hBRo) 0).trans (show _=some (Value.int .i64 rt) from rfl)
   refine step_pure (v:=.int .i64 rt) hk hCM hw ?_ rfl
   unfold execOp
   simp only [ho1]
   generalize A.eval=ρ at x15 ⊢
   simp [go_sem,x15,e1]
 | 4,_ =>
   have ho1:=opIs ho (p:=.call { callee:=(.value (.func 54)),args:=#[(.tmp 16)],argTypes:=#[3] }) (by kernel_rfl)
   have hg:=guardIs ho (p:=none) (by kernel_rfl)
   intro e A w hA hC hp hup K hk
   have hM:=hC.2 (hup 14 (by kernel_rfl))
   replace hC:=hC.1
   replace hk:Next (regOf Tryz.f55 5) (fun w=>(fun w=>w1.grownBy w (Value.slice va acc.length vc).ownBlock) w∧(fun w=>MakingB base bx acc va vc cells w) w) (wrrT base bx BR rt rk rd va vc acc cells w1) wrrD 4 e A w o.dst K:=hk.next fun v w h=>⟨h.1,fun _=>h.2⟩
   have hCM:=And.intro hC hM
   have x16:A.eval (.tmp 16) = .int .i64 rt:=op_tmp hA hp 16 3 (by kernel_rfl) (by kernel_rfl) (by kernel_rfl) (hz _ rfl)
   have hw:Region.wanted o (yielded (regOf Tryz.f55 5) A.tmps)=true:=wanted_free hg
   refine step_call (f:=54) (args:=#[.int .i64 rt]) hk hw ?_ ?_
   ·unfold execOp
    simp only [ho1]
    have xf:∀ f,A.eval (.func f) = .func (.func f) #[] #[]:=fun _=>rfl
    generalize A.eval=ρ at x16 xf ⊢
    simp [go_sem,xf,x16]
   ·refine (wnum_any rt w).mono ?_
    rintro en w' ⟨rfl,hb'⟩
    exact⟨_,rfl,rfl,⟨grown_trans hC (grown_of_below hb' _),hM.under hb'⟩,fun j u _ _ _ _ h=>wrr_keep base bx BR rt rk rd va vc acc cells w1 j u w _ hb' h⟩
 | 5,_ =>
   have ho1:=opIs ho (p:=.fieldAddr 67 (.tmp 5) 1) (by kernel_rfl)
   have hg:=guardIs ho (p:=none) (by kernel_rfl)
   intro e A w hA hC hp hup K hk
   have hM:=hC.2 (hup 14 (by kernel_rfl))
   replace hC:=hC.1
   replace hk:Next (regOf Tryz.f55 5) (fun w=>(fun w=>w1.grownBy w (Value.slice va acc.length vc).ownBlock) w∧(fun w=>MakingB base bx acc va vc cells w) w) (wrrT base bx BR rt rk rd va vc acc cells w1) wrrD 5 e A w o.dst K:=hk.next fun v w h=>⟨h.1,fun _=>h.2⟩
   have hCM:=And.intro hC hM
   have x5:A.eval (.tmp 5) = .pointer (some ⟨BR,0,none⟩):=filled_base hA (by kernel_rfl) b5
   have hw:Region.wanted o (yielded (regOf Tryz.f55 5) A.tmps)=true:=wanted_free hg
   refine step_pure (v:=.pointer (some ⟨BR,1,none⟩)) hk hCM hw ?_ rfl
   unfold execOp
   simp only [ho1]
   generalize A.eval=ρ at x5 ⊢
   simp [go_sem,x5]
 | 6,_ =>
   have ho1:=opIs ho (p:=.load 3 (.tmp 18)) (by kernel_rfl)
   have hg:=guardIs ho (p:=none) (by kernel_rfl)
   intro e A w hA hC hp hup K hk
   have hM:=hC.2 (hup 14 (by kernel_rfl))
   replace hC:=hC.1
   replace hk:Next (regOf Tryz.f55 5) (fun w=>(fun w=>w1.grownBy w (Value.slice va acc.length vc).ownBlock) w∧(fun w=>MakingB base bx acc va vc cells w) w) (wrrT base bx BR rt rk rd va vc acc cells w1) wrrD 6 e A w o.dst K:=hk.next fun v w h=>⟨h.1,fun _=>h.2⟩
   have hCM:=And.intro hC hM
   have x18:A.eval (.tmp 18) = .pointer (some ⟨BR,1,none⟩):=op_tmp hA hp 18 5 (by kernel_rfl) (by kernel_rfl) (by kernel_rfl) (hz _ rfl)
   have hw:Region.wanted o (yielded (regOf Tryz.f55 5) A.tmps)=true:=wanted_free hg
   have e1:=(Lib.cell_of_heap ((hC.block BR hBRl hBRn).trans hBRo) 1).trans (show _=some (Value.int .i64 rk) from rfl)
   refine step_pure (v:=.int .i64 rk) hk hCM hw ?_ rfl
   unfold execOp
   simp only [ho1]
   generalize A.eval=ρ at x18 ⊢
   simp [go_sem,x18,e1]
 | 7,_ =>
   have ho1:=opIs ho (p:=.call { callee:=(.value (.func 54)),args:=#[(.tmp 19)],argTypes:=#[3] }) (by kernel_rfl)
   have hg:=guardIs ho (p:=none) (by kernel_rfl)
   intro e A w hA hC hp hup K hk
   have hM:=hC.2 (hup 14 (by kernel_rfl))
   replace hC:=hC.1
   replace hk:Next (regOf Tryz.f55 5) (fun w=>(fun w=>w1.grownBy w (Value.slice va acc.length vc).ownBlock) w∧(fun w=>MakingB base bx acc va vc cells w) w) (wrrT base bx BR rt rk rd va vc acc cells w1) wrrD 7 e A w o.dst K:=hk.next fun v w h=>⟨h.1,fun _=>h.2⟩
   have hCM:=And.intro hC hM
   have x19:A.eval (.tmp 19) = .int .i64 rk:=op_tmp hA hp 19 6 (by kernel_rfl) (by kernel_rfl) (by kernel_rfl) (hz _ rfl)
   have hw:Region.wanted o (yielded (regOf Tryz.f55 5) A.tmps)=true:=wanted_free hg
   refine step_call (f:=54) (args:=#[.int .i64 rk]) hk hw ?_ ?_
   ·unfold execOp
    simp only [ho1]
    have xf:∀ f,A.eval (.func f) = .func (.func f) #[] #[]:=fun _=>rfl
    generalize A.eval=ρ at x19 xf ⊢
    simp [go_sem,xf,x19]
   ·refine (wnum_any rk w).mono ?_
    rintro en w' ⟨rfl,hb'⟩
    exact⟨_,rfl,rfl,⟨grown_trans hC (grown_of_below hb' _),hM.under hb'⟩,fun j u _ _ _ _ h=>wrr_keep base bx BR rt rk rd va vc acc cells w1 j u w _ hb' h⟩
 | 8,_ =>
   have ho1:=opIs ho (p:=.fieldAddr 67 (.tmp 5) 2) (by kernel_rfl)
   have hg:=guardIs ho (p:=none) (by kernel_rfl)
   intro e A w hA hC hp hup K hk
   have hM:=hC.2 (hup 14 (by kernel_rfl))
   replace hC:=hC.1
   replace hk:Next (regOf Tryz.f55 5) (fun w=>(fun w=>w1.grownBy w (Value.slice va acc.length vc).ownBlock) w∧(fun w=>MakingB base bx acc va vc cells w) w) (wrrT base bx BR rt rk rd va vc acc cells w1) wrrD 8 e A w o.dst K:=hk.next fun v w h=>⟨h.1,fun _=>h.2⟩
   have hCM:=And.intro hC hM
   have x5:A.eval (.tmp 5) = .pointer (some ⟨BR,0,none⟩):=filled_base hA (by kernel_rfl) b5
   have hw:Region.wanted o (yielded (regOf Tryz.f55 5) A.tmps)=true:=wanted_free hg
   refine step_pure (v:=.pointer (some ⟨BR,2,none⟩)) hk hCM hw ?_ rfl
   unfold execOp
   simp only [ho1]
   generalize A.eval=ρ at x5 ⊢
   simp [go_sem,x5]
 | 9,_ =>
   have ho1:=opIs ho (p:=.load 9 (.tmp 21)) (by kernel_rfl)
   have hg:=guardIs ho (p:=none) (by kernel_rfl)
   intro e A w hA hC hp hup K hk
   have hM:=hC.2 (hup 14 (by kernel_rfl))
   replace hC:=hC.1
   replace hk:Next (regOf Tryz.f55 5) (fun w=>(fun w=>w1.grownBy w (Value.slice va acc.length vc).ownBlock) w∧(fun w=>MakingB base bx acc va vc cells w) w) (wrrT base bx BR rt rk rd va vc acc cells w1) wrrD 9 e A w o.dst K:=hk.next fun v w h=>⟨h.1,fun _=>h.2⟩
   have hCM:=And.intro hC hM
   have x21:A.eval (.tmp 21) = .pointer (some ⟨BR,2,none⟩):=op_tmp hA hp 21 8 (by kernel_rfl) (by kernel_rfl) (by kernel_rfl) (hz _ rfl)
   have hw:Region.wanted o (yielded (regOf Tryz.f55 5) A.tmps)=true:=wanted_free hg
   have e1:=(Lib.cell_of_heap ((hC.block BR hBRl hBRn).trans hBRo) 2).trans (show _=some (Value.string rd) from rfl)
   refine step_pure (v:=.string rd) hk hCM hw ?_ rfl
   unfold execOp
   simp only [ho1]
   generalize A.eval=ρ at x21 ⊢
   simp [go_sem,x21,e1]
 | 10,_ =>
   have ho1:=opIs ho (p:=.build 70 #[(0,(.const (.int .i64 2))),(2,(.tmp 22))]) (by kernel_rfl)
   have hg:=guardIs ho (p:=none) (by kernel_rfl)
   intro e A w hA hC hp hup K hk
   have hM:=hC.2 (hup 14 (by kernel_rfl))
   replace hC:=hC.1
   replace hk:Next (regOf Tryz.f55 5) (fun w=>(fun w=>w1.grownBy w (Value.slice va acc.length vc).ownBlock) w∧(fun w=>MakingB base bx acc va vc cells w) w) (wrrT base bx BR rt rk rd va vc acc cells w1) wrrD 10 e A w o.dst K:=hk.next fun v w h=>⟨h.1,fun _=>h.2⟩
   have hCM:=And.intro hC hM
   have x22:A.eval (.tmp 22) = .string rd:=op_tmp hA hp 22 9 (by kernel_rfl) (by kernel_rfl) (by kernel_rfl) (hz _ rfl)
   have hw:Region.wanted o (yielded (regOf Tryz.f55 5) A.tmps)=true:=wanted_free hg
   refine step_pure (v:=.agg #[.int .i64 2,.int .i64 0,.string rd,.slice none 0 0]) hk hCM hw ?_ rfl
   unfold execOp
   simp only [ho1]
   have xc:∀ v,A.eval (.const v)=v:=fun _=>rfl
   generalize A.eval=ρ at x22 xc ⊢
   simp [go_sem,x22,xc]
 | 11,_ =>
   have ho1:=opIs ho (p:=.buildSlice 68 3 #[(0,(.tmp 17)),(1,(.tmp 20)),(2,(.tmp 23))]) (by kernel_rfl)
   have hg:=guardIs ho (p:=none) (by kernel_rfl)
   intro e A w hA hC hp hup K hk
   have hM:=hC.2 (hup 14 (by kernel_rfl))
   replace hC:=hC.1
   replace hk:Next (regOf Tryz.f55 5) (fun w=>(fun w=>w1.grownBy w (Value.slice va acc.length vc).ownBlock) w∧(fun w=>MakingB base bx acc va vc cells w) w) (wrrT base bx BR rt rk rd va vc acc cells w1) wrrD 11 e A w o.dst K:=hk.next fun v w h=>⟨h.1,fun _=>h.2⟩
   have hCM:=And.intro hC hM
   have x17:A.eval (.tmp 17) = .agg #[.int .i64 1,.int .i64 rt,.string ⟨#[]⟩,.slice none 0 0]:=op_tmp hA hp 17 4 (by kernel_rfl) (by kernel_rfl) (by kernel_rfl) (hz _ rfl)
   have x20:A.eval (.tmp 20) = .agg #[.int .i64 1,.int .i64 rk,.string ⟨#[]⟩,.slice none 0 0]:=op_tmp hA hp 20 7 (by kernel_rfl) (by kernel_rfl) (by kernel_rfl) (hz _ rfl)
   have x23:A.eval (.tmp 23) = .agg #[.int .i64 2,.int .i64 0,.string rd,.slice none 0 0]:=op_tmp hA hp 23 10 (by kernel_rfl) (by kernel_rfl) (by kernel_rfl) (hz _ rfl)
   have hw:Region.wanted o (yielded (regOf Tryz.f55 5) A.tmps)=true:=wanted_free hg
   refine step_value (v:=.slice (some ⟨w.heap.size,0,none⟩) 3 3) (w':=w.alloc (.cells #[.int .i64 1,.int .i64 rt,.string ⟨#[]⟩,.slice none 0 0,.int .i64 1,.int .i64 rk,.string ⟨#[]⟩,.slice none 0 0,.int .i64 2,.int .i64 0,.string rd,.slice none 0 0] 70)) hk hw ?_ ?_ ?_ ?_
   ·unfold execOp
    simp only [ho1]
    generalize A.eval=ρ at x17 x20 x23 ⊢
    simp [go_sem,x17,x20,x23]
   ·exact⟨w.heap.size,rfl,hC.size,heap_alloc_new w _⟩
   ·exact⟨grown_trans hC (World.grownBy_alloc w _ _),hM.under ((Below.refl _ w).alloc (Nat.le_refl _) _)⟩
   ·intro j u _ _ _ _ h
    exact wrr_keep base bx BR rt rk rd va vc acc cells w1 j u w _ ((Below.refl _ w).alloc (Nat.le_refl _) _) h
 | 12,_ =>
   have ho1:=opIs ho (p:=.build 70 #[(0,(.const (.int .i64 3))),(3,(.tmp 24))]) (by kernel_rfl)
   have hg:=guardIs ho (p:=none) (by kernel_rfl)
   intro e A w hA hC hp hup K hk
   have hM:=hC.2 (hup 14 (by kernel_rfl))
   replace hC:=hC.1
   replace hk:Next (regOf Tryz.f55 5) (fun w=>(fun w=>w1.grownBy w (Value.slice va acc.length vc).ownBlock) w∧(fun w=>MakingB base bx acc va vc cells w) w) (wrrT base bx BR rt rk rd va vc acc cells w1) wrrD 12 e A w o.dst K:=hk.next fun v w h=>⟨h.1,fun _=>h.2⟩
   have hCM:=And.intro hC hM
   have x24:=op_tmp hA hp 24 11 (by kernel_rfl) (by kernel_rfl) (by kernel_rfl) (hz _ rfl)
   have hw:Region.wanted o (yielded (regOf Tryz.f55 5) A.tmps)=true:=wanted_free hg
   obtain⟨b,x24,h1,h2⟩:=x24
   refine step_pure (v:=.agg #[.int .i64 3,.int .i64 0,.string ⟨#[]⟩,.slice (some ⟨b,0,none⟩) 3 3]) hk hCM hw ?_ ⟨b,rfl,h1,h2⟩
   unfold execOp
   simp only [ho1]
   have xc:∀ v,A.eval (.const v)=v:=fun _=>rfl
   generalize A.eval=ρ at x24 xc ⊢
   simp [go_sem,x24,xc]
 | 13,_ =>
   have ho1:=opIs ho (p:=.buildSlice 68 1 #[(0,(.tmp 25))]) (by kernel_rfl)
   have hg:=guardIs ho (p:=none) (by kernel_rfl)
   intro e A w hA hC hp hup K hk
   have hM:=hC.2 (hup 14 (by kernel_rfl))
   replace hC:=hC.1
   replace hk:Next (regOf Tryz.f55 5) (fun w=>(fun w=>w1.grownBy w (Value.slice va acc.length vc).ownBlock) w∧(fun w=>MakingB base bx acc va vc cells w) w) (wrrT base bx BR rt rk rd va vc acc cells w1) wrrD 13 e A w o.dst K:=hk.next fun v w h=>⟨h.1,fun _=>h.2⟩
   have hCM:=And.intro hC hM
   have x25:=op_tmp hA hp 25 12 (by kernel_rfl) (by kernel_rfl) (by kernel_rfl) (hz _ rfl)
   have hw:Region.wanted o (yielded (regOf Tryz.f55 5) A.tmps)=true:=wanted_free hg
   obtain⟨b,x25,h1,h2⟩:=x25
   refine step_value (v:=.slice (some ⟨w.heap.size,0,none⟩) 1 1) (w':=w.alloc (.cells #[.int .i64 3,.int .i64 0,.string ⟨#[]⟩,.slice (some ⟨b,0,none⟩) 3 3] 70)) hk hw ?_ ?_ ?_ ?_
   ·unfold execOp
    simp only [ho1]
    generalize A.eval=ρ at x25 ⊢
    simp [go_sem,x25]
   ·exact⟨b,w.heap.size,rfl,⟨h1,(heap_alloc_old w _ (lt_of_block h2)).trans h2⟩,heap_alloc_new w _⟩
   ·exact⟨grown_trans hC (World.grownBy_alloc w _ _),hM.under ((Below.refl _ w).alloc (Nat.le_refl _) _)⟩
   ·intro j u _ _ _ _ h
    exact wrr_keep base bx BR rt rk rd va vc acc cells w1 j u w _ ((Below.refl _ w).alloc (Nat.le_refl _) _) h
 | 14,_ =>
   have ho1:=opIs ho (p:=.call { callee:=(.builtin .append),args:=#[(.tmp 14),(.tmp 26)],argTypes:=#[68,68] }) (by kernel_rfl)
   have hg:=guardIs ho (p:=none) (by kernel_rfl)
   intro e A w hA hC hp hup K hk
   have hM:=hC.2 (hup 14 (by kernel_rfl))
   have x14:A.eval (.tmp 14) = .slice va acc.length vc:=op_tmp hA hp 14 1 (by kernel_rfl) (by kernel_rfl) (by kernel_rfl) (hz _ rfl)
   have x26:=op_tmp hA hp 26 13 (by kernel_rfl) (by kernel_rfl) (by kernel_rfl) (hz _ rfl)
   have hw:Region.wanted o (yielded (regOf Tryz.f55 5) A.tmps)=true:=wanted_free hg
   obtain⟨b,c,x26,⟨h1,h2⟩,h3⟩:=x26
   have hat:V.At w (fun p=>w1.heap.size≤p∧p<w.heap.size) (recV ⟨rt,rk,rd⟩) [.int .i64 3,.int .i64 0,.string ⟨#[]⟩,.slice (some ⟨b,0,none⟩) 3 3]:=by
    simp only [recV,listV,numV,textV,V.At,VAll]
    refine⟨some ⟨b,0,none⟩,3,rfl,Nat.le_refl _,(fun e=>by cases e),⟨b,0,[.int .i64 1,.int .i64 rt,.string ⟨#[]⟩,.slice none 0 0],rfl,⟨h1,lt_of_block h2⟩,⟨none,0,rfl,Nat.le_refl _,fun _=>rfl,trivial⟩,fun j u hj=>?_⟩,⟨b,0,[.int .i64 1,.int .i64 rk,.string ⟨#[]⟩,.slice none 0 0],rfl,⟨h1,lt_of_block h2⟩,⟨none,0,rfl,Nat.le_refl _,fun _=>rfl,trivial⟩,fun j u hj=>?_⟩,⟨b,0,[.int .i64 2,.int .i64 0,.string rd,.slice none 0 0],rfl,⟨h1,lt_of_block h2⟩,⟨none,0,rfl,Nat.le_refl _,fun _=>rfl,trivial⟩,fun j u hj=>?_⟩,trivial⟩
    ·match j,hj with
     | 0,hj=>exact (Lib.cell_of_heap h2 _).trans hj
     | 1,hj=>exact (Lib.cell_of_heap h2 _).trans hj
     | 2,hj=>exact (Lib.cell_of_heap h2 _).trans hj
     | 3,hj=>exact (Lib.cell_of_heap h2 _).trans hj
    ·match j,hj with
     | 0,hj=>exact (Lib.cell_of_heap h2 _).trans hj
     | 1,hj=>exact (Lib.cell_of_heap h2 _).trans hj
     | 2,hj=>exact (Lib.cell_of_heap h2 _).trans hj
     | 3,hj=>exact (Lib.cell_of_heap h2 _).trans hj
    ·match j,hj with
     | 0,hj=>exact (Lib.cell_of_heap h2 _).trans hj
     | 1,hj=>exact (Lib.cell_of_heap h2 _).trans hj
     | 2,hj=>exact (Lib.cell_of_heap h2 _).trans hj
     | 3,hj=>exact (Lib.cell_of_heap h2 _).trans hj
   have hrw:RowOf w (fun p=>w1.heap.size≤p∧p<w.heap.size) [recV ⟨rt,rk,rd⟩] [.int .i64 3,.int .i64 0,.string ⟨#[]⟩,.slice (some ⟨b,0,none⟩) 3 3]:=by have:=RowOf.snoc RowOf.nil hat; exact this
   obtain⟨a3,c3,cells3,w',hr,hg,hmade⟩:=makingB_append hM [recV ⟨rt,rk,rd⟩] _ 1 c w1.heap.size _ 68 o.type hV h3 rfl hrw hbw hvl (by decide) (by decide) hn
   rw [if_pos hw]
   unfold Oper.wp
   rw [show (execOp A.eval o).run Tryz.prog w = .ok (.value (.slice a3 (acc.length+[recV ⟨rt,rk,rd⟩].length) c3)) w' by
    unfold execOp
    simp only [ho1,resolve,invoke,builtin,Sem.run_bind,Sem.run_pure,Result.andThen_ok,List.map_toArray,List.map_cons,List.map_nil,x14,x26,hr]]
   have hown:∀ p,w1.heap.size≤p→some p≠(Value.slice va acc.length vc).ownBlock:=fun p hp e=>by have:=hvl p e.symm; omega
   refine hk _ _ ⟨a3,c3,cells3,rfl,hmade⟩ ⟨grown_trans hC.1 hg,fun h=>by rw [Vals.set_same] at h; cases h⟩ ?_
   intro j u hj hji _ hd h
   match j,h with
   | 0,h=>exact h
   | 1,h=>exact h
   | 2,h=>exact h
   | 3,h=>exact h
   | 4,h=>exact h
   | 5,h=>exact h
   | 6,h=>exact h
   | 7,h=>exact h
   | 8,h=>exact h
   | 9,h=>exact h
   | 10,h=>exact h
   | 11,h=>obtain⟨b,rfl,h1,h2⟩:=h; exact⟨b,rfl,h1,(hg.block _ (lt_of_block h2) (hown _ h1)).trans h2⟩
   | 12,h=>obtain⟨b,rfl,h1,h2⟩:=h; exact⟨b,rfl,h1,(hg.block _ (lt_of_block h2) (hown _ h1)).trans h2⟩
   | 13,h=>exact absurd rfl (hd 14 (by rw [hsz]; decide) rfl).1
   | 14,h=>exact absurd rfl hji
   | 15,h=>exact h
   | _+16,h=>trivial
 | 15,_ =>
   have ho1:=opIs ho (p:=.fieldAddr 70 (.tmp 3) 3) (by kernel_rfl)
   have hg:=guardIs ho (p:=none) (by kernel_rfl)
   intro e A w hA hC hp hup K hk
   replace hk:Next (regOf Tryz.f55 5) (fun w=>(fun w=>w1.grownBy w (Value.slice va acc.length vc).ownBlock) w∧(e 14=none→(fun w=>MakingB base bx acc va vc cells w) w)) (wrrT base bx BR rt rk rd va vc acc cells w1) wrrD 15 e A w o.dst K:=hk.next fun v w h=>⟨h.1,fun he=>h.2 (by rwa [Vals.set_other e v (by decide)] at he)⟩
   have hCM:=hC
   have x3:A.eval (.tmp 3) = .pointer (some ⟨bx,0,none⟩):=filled_base hA (by kernel_rfl) b3
   have hw:Region.wanted o (yielded (regOf Tryz.f55 5) A.tmps)=true:=wanted_free hg
   refine step_pure (v:=.pointer (some ⟨bx,3,none⟩)) hk hCM hw ?_ rfl
   unfold execOp
   simp only [ho1]
   generalize A.eval=ρ at x3 ⊢
   simp [go_sem,x3]
 | _+16,h=>exact absurd h (by omega)
set_option maxRecDepth 100000 in
set_option maxHeartbeats 2000000 in
theorem wrecs_any (a:Option Addr) (n c:Nat) (rs:List Rc) (w:World) (H:rcE.Sl w a n rs) (hn:n≤200) :
 Calls Tryz.prog 55 #[.slice a n c] w (fun e w'=>∃ ra rc,e = .returned (.agg #[.int .i64 3,.int .i64 0,.string ⟨#[]⟩,.slice ra n rc])∧V.At w' (fun p=>w.heap.size≤p∧p<w'.heap.size) (listV (rs.map recV)) [.int .i64 3,.int .i64 0,.string ⟨#[]⟩,.slice ra n rc]∧Below w.heap.size w w'):=by
 have HN:=Lib.hid (show n=rs.length from H.1)
 replace H:=Lib.hid H
 have HB0:=Lib.hid (((Below.refl _ w).alloc (Nat.le_refl _) (.cells #[.int .i64 0,.int .i64 0,.string ⟨#[]⟩,.slice none 0 0] 70)).alloc (by simp) (.cells #[.int .i64 3,.int .i64 0,.string ⟨#[]⟩,.slice none 0 0] 70))
 have HK0:=Lib.hid (Blk.both w (.cells #[.int .i64 0,.int .i64 0,.string ⟨#[]⟩,.slice none 0 0] 70) (.cells #[.int .i64 3,.int .i64 0,.string ⟨#[]⟩,.slice none 0 0] 70) _ _ [.int .i64 0,.int .i64 0,.string ⟨#[]⟩,.slice none 0 0] [.int .i64 3,.int .i64 0,.string ⟨#[]⟩,.slice none 0 0] rfl rfl).1
 have HF0:=Lib.hid (Blk.both w (.cells #[.int .i64 0,.int .i64 0,.string ⟨#[]⟩,.slice none 0 0] 70) (.cells #[.int .i64 3,.int .i64 0,.string ⟨#[]⟩,.slice none 0 0] 70) _ _ [.int .i64 0,.int .i64 0,.string ⟨#[]⟩,.slice none 0 0] [.int .i64 3,.int .i64 0,.string ⟨#[]⟩,.slice none 0 0] rfl rfl).2
 have HS0:Hid (((w.alloc (.cells #[.int .i64 0,.int .i64 0,.string ⟨#[]⟩,.slice none 0 0] 70)).alloc (.cells #[.int .i64 3,.int .i64 0,.string ⟨#[]⟩,.slice none 0 0] 70)).heap.size=w.heap.size+2):=Lib.hid (by simp)
 go_enter Tryz.func55,Tryz.ntmps55
 go_upto_region 2 with fail
 generalize ((w.alloc (.cells #[.int .i64 0,.int .i64 0,.string ⟨#[]⟩,.slice none 0 0] 70)).alloc (.cells #[.int .i64 3,.int .i64 0,.string ⟨#[]⟩,.slice none 0 0] 70))=w0 at *
 have hs0:=HS0.out
 have HM0:Hid (MakingB w0.heap.size (w.heap.size+1) [] none 0 [] w0):=Lib.hid (MakingB.start _ _ _ (by omega) (Nat.le_refl _) HF0.out)
 go_wp2_with fail
 go_loopg [9] n (fun gk v wr=>∃ (k:Nat) (acc:List V) (va:Option Addr) (vc:Nat) (cells:List Value),k≤n∧gk=n - k∧v = .int .i64 (k:Int)∧Hid (acc=(rs.take k).map recV)∧Hid (MakingB w0.heap.size (w.heap.size+1) acc va vc cells wr)∧Hid (KeptB w0.heap.size (w.heap.size+1) w0 wr))
 case atStart=>exact⟨0,[],none,0,[],Nat.zero_le _,rfl,rfl,Lib.hid rfl,HM0,Lib.hid (KeptB.refl _ _ _)⟩
 case round =>
  clear HM0
  obtain⟨k,acc,va,vc,cells,hk,rfl,rfl,HACC,hM,hKP⟩:=hrel
  have HL:Hid (acc.length=k):=Lib.hid (by rw [HACC.out,List.length_map,List.length_take]; have:=HN.out; omega)
  have HBr:=Lib.hid (HB0.out.trans (hKP.out.below (B:=w.heap.size) (by omega) (by omega)))
  by_cases hkn:k<n
  ·have hki:(k:Int)<(n:Int):=by omega
   have hkl:k<rs.length:=by rw [← HN.out]; exact hkn
   obtain⟨b,off,rfl,hc⟩:=rc_at (H.out.keep HBr.out) (by omega)
   obtain⟨c0,c1,c2⟩:=hc k hkl
   have HLI:Hid (acc.length≤200):=Lib.hid (by have:=HL.out; omega)
   have HMT:Hid (acc++[recV rs[k]]=(rs.take (k+1)).map recV):=Lib.hid (by rw [HACC.out,List.take_add_one,List.getElem?_eq_getElem hkl,List.map_append]; rfl)
   clear hc
   generalize rs[k]=r at *
   obtain⟨rt,rk,rd⟩:=r
   dsimp only at c0 c1 c2
   have hbq:Below wr.heap.size wr (wr.alloc (.cells #[.int .i64 rt,.int .i64 rk,.string rd] 67)):=(Below.refl _ wr).alloc (Nat.le_refl _) _
   have HMq:=Lib.hid (hM.out.under hbq)
   have KPq:=Lib.hid (hKP.out.under hbq hM.out.le)
   have HRq:Hid ((wr.alloc (.cells #[.int .i64 rt,.int .i64 rk,.string rd] 67)).heap[wr.heap.size]? = some (.cells #[.int .i64 rt,.int .i64 rk,.string rd] 67 (0,0))):=Lib.hid (heap_alloc_new wr _)
   have HOL:=Lib.hid hM.out.own.lt
   have hsq:wr.heap.size<(wr.alloc (.cells #[.int .i64 rt,.int .i64 rk,.string rd] 67)).heap.size:=by simp
   have HSQ:=Lib.hid hsq
   clear hbq hM hKP hsq
   go_wp2_with fail
   clear c0 c1 c2
   generalize (wr.alloc (.cells #[.int .i64 rt,.int .i64 rk,.string rd] 67))=wq at *
   refine wp_region_lastE (regOf Tryz.f55 5) [some 13,some 14,some 15,some 16,some 17,some 18,some 19,some 20,some 21,some 22,some 23,some 24,some 25,some 26,some 27,some 28] 16 (wrrT w0.heap.size ((w.heap.size+1)) wr.heap.size rt rk rd va vc acc cells wq) (fun e w'=>(wq.grownBy w' (Value.slice va acc.length vc).ownBlock)∧(e 14=none→MakingB w0.heap.size ((w.heap.size+1)) acc va vc cells w')) wrrD (by kernel_rfl) (by kernel_rfl) (by kernel_rfl) (by kernel_rfl) (by kernel_rfl) (by kernel_rfl) (by kernel_rfl) ⟨grown_of_below ((Below.refl _ _).drew) _,fun _=>HMq.out.under ((Below.refl _ _).drew)⟩
    (wrr_steps w0.heap.size ((w.heap.size+1)) wr.heap.size rt rk rd va vc acc cells wq (HMq.out.le) (HSQ.out) (fun e=>by have:=(HOL.out _ e.symm).2; omega) HRq.out (fun k hk=>(HMq.out.own.lt k hk).2) (by have:=HLI.out; omega) (by kernel_rfl) (by kernel_rfl) (by kernel_rfl) (by kernel_rfl)) ?_
   intro oL hoL eL vs w11 hn hallL hCw11 hT KL hKL
   replace hn:vs.length=16:=hn
   obtain⟨v0,vs1,rfl,hn1⟩:=len_cons hn
   obtain⟨v1,vs2,rfl,hn2⟩:=len_cons hn1
   obtain⟨v2,vs3,rfl,hn3⟩:=len_cons hn2
   obtain⟨v3,vs4,rfl,hn4⟩:=len_cons hn3
   obtain⟨v4,vs5,rfl,hn5⟩:=len_cons hn4
   obtain⟨v5,vs6,rfl,hn6⟩:=len_cons hn5
   obtain⟨v6,vs7,rfl,hn7⟩:=len_cons hn6
   obtain⟨v7,vs8,rfl,hn8⟩:=len_cons hn7
   obtain⟨v8,vs9,rfl,hn9⟩:=len_cons hn8
   obtain⟨v9,vs10,rfl,hn10⟩:=len_cons hn9
   obtain⟨v10,vs11,rfl,hn11⟩:=len_cons hn10
   obtain⟨v11,vs12,rfl,hn12⟩:=len_cons hn11
   obtain⟨v12,vs13,rfl,hn13⟩:=len_cons hn12
   obtain⟨v13,vs14,rfl,hn14⟩:=len_cons hn13
   obtain⟨v14,vs15,rfl,hn15⟩:=len_cons hn14
   obtain⟨v15,vs16,rfl,hn16⟩:=len_cons hn15
   obtain rfl:=List.eq_nil_of_length_eq_zero hn16
   clear hn hn1 hn2 hn3 hn4 hn5 hn6 hn7 hn8 hn9 hn10 hn11 hn12 hn13 hn14 hn15 hn16
   obtain rfl:v0 = .pointer (some ⟨(w.heap.size+1),3,none⟩):=hT 0 v0 rfl (by kernel_rfl)
   obtain rfl:v1 = .slice va acc.length vc:=hT 1 v1 rfl (by kernel_rfl)
   obtain rfl:v2 = .pointer (some ⟨wr.heap.size,0,none⟩):=hT 2 v2 rfl (by kernel_rfl)
   obtain rfl:v3 = .int .i64 rt:=hT 3 v3 rfl (by kernel_rfl)
   obtain rfl:v4 = .agg #[.int .i64 1,.int .i64 rt,.string ⟨#[]⟩,.slice none 0 0]:=hT 4 v4 rfl (by kernel_rfl)
   obtain rfl:v5 = .pointer (some ⟨wr.heap.size,1,none⟩):=hT 5 v5 rfl (by kernel_rfl)
   obtain rfl:v6 = .int .i64 rk:=hT 6 v6 rfl (by kernel_rfl)
   obtain rfl:v7 = .agg #[.int .i64 1,.int .i64 rk,.string ⟨#[]⟩,.slice none 0 0]:=hT 7 v7 rfl (by kernel_rfl)
   obtain rfl:v8 = .pointer (some ⟨wr.heap.size,2,none⟩):=hT 8 v8 rfl (by kernel_rfl)
   obtain rfl:v9 = .string rd:=hT 9 v9 rfl (by kernel_rfl)
   obtain rfl:v10 = .agg #[.int .i64 2,.int .i64 0,.string rd,.slice none 0 0]:=hT 10 v10 rfl (by kernel_rfl)
   have t11:=Lib.hid (hT 11 v11 rfl (by kernel_rfl))
   have t12:=Lib.hid (hT 12 v12 rfl (by kernel_rfl))
   have t14:=Lib.hid (hT 14 v14 rfl (by kernel_rfl))
   obtain rfl:v15 = .pointer (some ⟨(w.heap.size+1),3,none⟩):=hT 15 v15 rfl (by kernel_rfl)
   clear hT
   have hoL1:=opIs hoL (p:=.store 68 (.tmp 28) (.tmp 27)) (by kernel_rfl)
   have hgL:=guardIs hoL (p:=none) (by kernel_rfl)
   have hdL:oL.dst=none:=by have:=(show ((regOf Tryz.f55 5)[16]?).map (·.dst)=some (none) by kernel_rfl); rw [hoL] at this; simpa using this
   rw [if_pos (wanted_free hgL)]
   rw [hdL] at hKL
   simp only [puts,Act.put,List.setIfInBounds_toArray,List.set_cons_succ,List.set_cons_zero] at hKL ⊢
   obtain⟨hC9,-⟩:=hCw11
   obtain⟨a3,c3,cells3,e11,hmade⟩:=t14.out
   subst e11
   have e3:=hmade.box.c3
   have k3:=hmade.box.free 3
   unfold Oper.wp
   rw [show (execOp _ oL).run Tryz.prog w11 = .ok .skip (w11.setCell ⟨(w.heap.size+1),3,none⟩ (.slice a3 (acc.length+[recV ⟨rt,rk,rd⟩].length) c3)) by unfold execOp; simp only [hoL1]; simp [go_sem,e3,k3]]
   show KL (Act.put _ oL.dst undef) _
   rw [hdL]
   refine hKL undef _ ?_
   have HMK:=Lib.hid hmade.store
   have HKN:=Lib.hid ((KPq.out.grown hC9 (by have:=HMq.out.le; omega) (fun k hk=>.inl (HMq.out.own.lt k hk).1)).grown (grown_setCell w11 ((w.heap.size+1)) 3 (.slice a3 (acc.length+[recV ⟨rt,rk,rd⟩].length) c3)) (by have:=hC9.size; have:=HMq.out.le; omega) (fun k hk=>.inr (Option.some.inj hk).symm))
   clear e3 k3 hmade t11 t12 t14 hC9 hKL hoL hoL1 hgL hdL hallL
   generalize w11.setCell ⟨(w.heap.size+1),3,none⟩ (.slice a3 (acc.length+[recV ⟨rt,rk,rd⟩].length) c3)=w12 at *
   go_wp2_with fail
   go_roundg (n - (k+1))
   case rel=>exact⟨k+1,_,a3,c3,cells3,by omega,rfl,by go_num,HMT,HMK,HKN⟩
   case measure=>omega
  ·obtain rfl:k=n:=by omega
   have HACR:Hid (acc=rs.map recV):=Lib.hid (by rw [HACC.out,HN.out,List.take_length])
   have HLN:=Lib.hid (show acc.length=k from HL.out)
   have HKz:=Lib.hid (show Blk wr w.heap.size _ _ from (hKP.out.block _ (by omega) (by omega)).trans HK0.out)
   have z0:=hM.out.box.c0
   have z1:=hM.out.box.c1
   have z2:=hM.out.box.c2
   have z3:=hM.out.box.c3
   have q0:=HKz.out.cell (j:=0) rfl
   have q1:=HKz.out.cell (j:=1) rfl
   have q2:=HKz.out.cell (j:=2) rfl
   have q3:=HKz.out.cell (j:=3) rfl
   have f0:=HKz.out.free 0
   have f1:=HKz.out.free 1
   have f2:=HKz.out.free 2
   have f3:=HKz.out.free 3
   go_wp2_with fail
   have hz9:=(((HKz.out.set 0 (.int .i64 3)).set 1 (.int .i64 0)).set 2 (.string ⟨#[]⟩)).set 3 (.slice va acc.length vc)
   have hg9:=grown_trans (grown_trans (grown_trans (grown_setCell wr w.heap.size 0 (.int .i64 3)) (grown_setCell _ w.heap.size 1 (.int .i64 0))) (grown_setCell _ w.heap.size 2 (.string ⟨#[]⟩))) (grown_setCell _ w.heap.size 3 (.slice va acc.length vc))
   have HB9:=Lib.hid (HBr.out.grown hg9 HBr.out.size (fun q e=>by have:=Option.some.inj e; omega))
   have HAT:=Lib.hid hM.out.at
   refine bodyPost_ret (v:=.agg #[.int .i64 3,.int .i64 0,.string ⟨#[]⟩,.slice va acc.length vc]) ?_ rfl ?_
   ·exact results_cell_row (p:=2) rfl _ _ w.heap.size 70 _ (0,0) _ rfl hz9 Tryz.underlying70 rfl (by kernel_rfl)
   ·rw [← HACR.out]
    refine⟨va,vc,by rw [HLN.out],?_,HB9.out⟩
    rw [← HLN.out]
    exact V.At.move (fun p hp=>⟨by have:=hp.1; omega,Nat.lt_of_lt_of_le hp.2 hg9.size⟩) (fun p hp=>hg9.block p hp.2 (fun e=>by have:=Option.some.inj e; have:=hp.1; omega)) _ _ HAT.out
end Go.Proofs.YtlpgbmaoenncjaaGreatDoor

namespace Go.Proofs.YtlpgbmaoenncjaaGreatDoor
open Go.RowKit
set_option linter.unusedVariables false
def wvnT (base bx:Nat) (x:Int) (va:Option Addr) (vc:Nat) (acc:List V) (cells:List Value) (w1:World):Nat→Value→World→Prop
 | 0,v,w=>v = .pointer (some ⟨bx,3,none⟩)
 | 1,v,w=>v = .slice va acc.length vc
 | 2,v,w=>v = .int .i64 x
 | 3,v,w=>v = .agg #[.int .i64 1,.int .i64 x,.string ⟨#[]⟩,.slice none 0 0]
 | 4,v,w=>∃ c,v = .slice (some ⟨c,0,none⟩) 1 1∧w.heap[c]? = some (.cells #[.int .i64 1,.int .i64 x,.string ⟨#[]⟩,.slice none 0 0] 70 (0,0))
 | 5,v,w=>∃ a3 c3 cells3,v = .slice a3 (acc.length+[numV x].length) c3∧MadeB base bx acc [numV x] va vc a3 c3 cells3 w
 | 6,v,w=>v = .pointer (some ⟨bx,3,none⟩)
 | _,_,_=>True
def wvnD:Nat→List Nat
 | 5=>[4]
 | _=>[]
theorem wvn_keep (base bx:Nat) (x:Int) (va:Option Addr) (vc:Nat) (acc:List V) (cells:List Value) (w1:World):∀ (j:Nat) (u:Value) (w w':World),Below w.heap.size w w'→(wvnT base bx x va vc acc cells w1) j u w→(wvnT base bx x va vc acc cells w1) j u w'
 | 4,u,w,w',hb,h=>by obtain⟨c,rfl,h3⟩:=h; exact⟨c,rfl,(hb.block _ (lt_of_block h3)).trans h3⟩
 | 5,u,w,w',hb,h=>by obtain⟨a3,c3,cells3,rfl,h1⟩:=h; exact⟨a3,c3,cells3,rfl,h1.under hb⟩
 | 0,u,w,w',hb,h=>h
 | 1,u,w,w',hb,h=>h
 | 2,u,w,w',hb,h=>h
 | 3,u,w,w',hb,h=>h
 | 6,u,w,w',hb,h=>h
 | _+7,u,w,w',hb,h=>trivial
set_option maxHeartbeats 4000000 in
theorem wvn_steps (base bx:Nat) (x:Int) (va:Option Addr) (vc:Nat) (acc:List V) (cells:List Value) (w1:World) (hbw:base≤w1.heap.size) (hvl:∀ k,(Value.slice va acc.length vc).ownBlock=some k→k<w1.heap.size) (hn:acc.length≤1000000) (hV:Tryz.prog.underlying 68 = some (.slice 70)) {a:Act}(hs:a.tmps.size=46) (b3:a.eval (.tmp 3) = .pointer (some ⟨bx,0,none⟩)) (b5:a.eval (.tmp 5) = .int .i64 x):∀ i o,i<7→(regOf Tryz.f67 5)[i]? = some o→StepOkE Tryz.prog (regOf Tryz.f67 5) a (fun e w=>(fun w=>w1.grownBy w (Value.slice va acc.length vc).ownBlock) w∧(e 5=none→(fun w=>MakingB base bx acc va vc cells w) w)) (wvnT base bx x va vc acc cells w1) wvnD i o:=by
 have hz:∀ t,Nat.blt t 46=true→Nat.blt t a.tmps.size=true:=fun t h=>by rw [hs]; exact h
 have hsz:(regOf Tryz.f67 5).size=8:=by kernel_rfl
 intro i o hii ho
 match i,hii with
 | 0,_ =>
   have ho1:=opIs ho (p:=.fieldAddr 70 (.tmp 3) 3) (by kernel_rfl)
   have hg:=guardIs ho (p:=none) (by kernel_rfl)
   intro e A w hA hC hp hup K hk
   have hM:=hC.2 (hup 5 (by kernel_rfl))
   replace hC:=hC.1
   replace hk:Next (regOf Tryz.f67 5) (fun w=>(fun w=>w1.grownBy w (Value.slice va acc.length vc).ownBlock) w∧(fun w=>MakingB base bx acc va vc cells w) w) (wvnT base bx x va vc acc cells w1) wvnD 0 e A w o.dst K:=hk.next fun v w h=>⟨h.1,fun _=>h.2⟩
   have hCM:=And.intro hC hM
   have x3:A.eval (.tmp 3) = .pointer (some ⟨bx,0,none⟩):=filled_base hA (by kernel_rfl) b3
   have hw:Region.wanted o (yielded (regOf Tryz.f67 5) A.tmps)=true:=wanted_free hg
   refine step_pure (v:=.pointer (some ⟨bx,3,none⟩)) hk hCM hw ?_ rfl
   unfold execOp
   simp only [ho1]
   generalize A.eval=ρ at x3 ⊢
   simp [go_sem,x3]
 | 1,_ =>
   have ho1:=opIs ho (p:=.load 68 (.tmp 14)) (by kernel_rfl)
   have hg:=guardIs ho (p:=none) (by kernel_rfl)
   intro e A w hA hC hp hup K hk
   have hM:=hC.2 (hup 5 (by kernel_rfl))
   replace hC:=hC.1
   replace hk:Next (regOf Tryz.f67 5) (fun w=>(fun w=>w1.grownBy w (Value.slice va acc.length vc).ownBlock) w∧(fun w=>MakingB base bx acc va vc cells w) w) (wvnT base bx x va vc acc cells w1) wvnD 1 e A w o.dst K:=hk.next fun v w h=>⟨h.1,fun _=>h.2⟩
   have hCM:=And.intro hC hM
   have x14:A.eval (.tmp 14) = .pointer (some ⟨bx,3,none⟩):=op_tmp hA hp 14 0 (by kernel_rfl) (by kernel_rfl) (by kernel_rfl) (hz _ rfl)
   have hw:Region.wanted o (yielded (regOf Tryz.f67 5) A.tmps)=true:=wanted_free hg
   have e1:=hM.box.c3
   refine step_pure (v:=.slice va acc.length vc) hk hCM hw ?_ rfl
   unfold execOp
   simp only [ho1]
   generalize A.eval=ρ at x14 ⊢
   simp [go_sem,x14,e1]
 | 2,_ =>
   have ho1:=opIs ho (p:=.move (.tmp 5)) (by kernel_rfl)
   have hg:=guardIs ho (p:=none) (by kernel_rfl)
   intro e A w hA hC hp hup K hk
   have hM:=hC.2 (hup 5 (by kernel_rfl))
   replace hC:=hC.1
   replace hk:Next (regOf Tryz.f67 5) (fun w=>(fun w=>w1.grownBy w (Value.slice va acc.length vc).ownBlock) w∧(fun w=>MakingB base bx acc va vc cells w) w) (wvnT base bx x va vc acc cells w1) wvnD 2 e A w o.dst K:=hk.next fun v w h=>⟨h.1,fun _=>h.2⟩
   have hCM:=And.intro hC hM
   have x5:A.eval (.tmp 5) = .int .i64 x:=filled_base hA (by kernel_rfl) b5
   have hw:Region.wanted o (yielded (regOf Tryz.f67 5) A.tmps)=true:=wanted_free hg
   exact step_pure hk hCM hw (run_move ho1 x5 w) rfl
 | 3,_ =>
   have ho1:=opIs ho (p:=.call { callee:=(.value (.func 54)),args:=#[(.tmp 16)],argTypes:=#[3] }) (by kernel_rfl)
   have hg:=guardIs ho (p:=none) (by kernel_rfl)
   intro e A w hA hC hp hup K hk
   have hM:=hC.2 (hup 5 (by kernel_rfl))
   replace hC:=hC.1
   replace hk:Next (regOf Tryz.f67 5) (fun w=>(fun w=>w1.grownBy w (Value.slice va acc.length vc).ownBlock) w∧(fun w=>MakingB base bx acc va vc cells w) w) (wvnT base bx x va vc acc cells w1) wvnD 3 e A w o.dst K:=hk.next fun v w h=>⟨h.1,fun _=>h.2⟩
   have hCM:=And.intro hC hM
   have x16:A.eval (.tmp 16) = .int .i64 x:=op_tmp hA hp 16 2 (by kernel_rfl) (by kernel_rfl) (by kernel_rfl) (hz _ rfl)
   have hw:Region.wanted o (yielded (regOf Tryz.f67 5) A.tmps)=true:=wanted_free hg
   refine step_call (f:=54) (args:=#[.int .i64 x]) hk hw ?_ ?_
   ·unfold execOp
    simp only [ho1]
    have xf:∀ f,A.eval (.func f) = .func (.func f) #[] #[]:=fun _=>rfl
    generalize A.eval=ρ at x16 xf ⊢
    simp [go_sem,xf,x16]
   ·refine (wnum_any x w).mono ?_
    rintro en w' ⟨rfl,hb'⟩
    exact⟨_,rfl,rfl,⟨grown_trans hC (grown_of_below hb' _),hM.under hb'⟩,fun j u _ _ _ _ h=>wvn_keep base bx x va vc acc cells w1 j u w _ hb' h⟩
 | 4,_ =>
   have ho1:=opIs ho (p:=.buildSlice 68 1 #[(0,(.tmp 17))]) (by kernel_rfl)
   have hg:=guardIs ho (p:=none) (by kernel_rfl)
   intro e A w hA hC hp hup K hk
   have hM:=hC.2 (hup 5 (by kernel_rfl))
   replace hC:=hC.1
   replace hk:Next (regOf Tryz.f67 5) (fun w=>(fun w=>w1.grownBy w (Value.slice va acc.length vc).ownBlock) w∧(fun w=>MakingB base bx acc va vc cells w) w) (wvnT base bx x va vc acc cells w1) wvnD 4 e A w o.dst K:=hk.next fun v w h=>⟨h.1,fun _=>h.2⟩
   have hCM:=And.intro hC hM
   have x17:A.eval (.tmp 17) = .agg #[.int .i64 1,.int .i64 x,.string ⟨#[]⟩,.slice none 0 0]:=op_tmp hA hp 17 3 (by kernel_rfl) (by kernel_rfl) (by kernel_rfl) (hz _ rfl)
   have hw:Region.wanted o (yielded (regOf Tryz.f67 5) A.tmps)=true:=wanted_free hg
   refine step_value (v:=.slice (some ⟨w.heap.size,0,none⟩) 1 1) (w':=w.alloc (.cells #[.int .i64 1,.int .i64 x,.string ⟨#[]⟩,.slice none 0 0] 70)) hk hw ?_ ?_ ?_ ?_
   ·unfold execOp
    simp only [ho1]
    generalize A.eval=ρ at x17 ⊢
    simp [go_sem,x17]
   ·exact⟨w.heap.size,rfl,heap_alloc_new w _⟩
   ·exact⟨grown_trans hC (World.grownBy_alloc w _ _),hM.under ((Below.refl _ w).alloc (Nat.le_refl _) _)⟩
   ·intro j u _ _ _ _ h
    exact wvn_keep base bx x va vc acc cells w1 j u w _ ((Below.refl _ w).alloc (Nat.le_refl _) _) h
 | 5,_ =>
   have ho1:=opIs ho (p:=.call { callee:=(.builtin .append),args:=#[(.tmp 15),(.tmp 18)],argTypes:=#[68,68] }) (by kernel_rfl)
   have hg:=guardIs ho (p:=none) (by kernel_rfl)
   intro e A w hA hC hp hup K hk
   have hM:=hC.2 (hup 5 (by kernel_rfl))
   have x15:A.eval (.tmp 15) = .slice va acc.length vc:=op_tmp hA hp 15 1 (by kernel_rfl) (by kernel_rfl) (by kernel_rfl) (hz _ rfl)
   have x18:=op_tmp hA hp 18 4 (by kernel_rfl) (by kernel_rfl) (by kernel_rfl) (hz _ rfl)
   have hw:Region.wanted o (yielded (regOf Tryz.f67 5) A.tmps)=true:=wanted_free hg
   obtain⟨c,x18,h3⟩:=x18
   have hat:V.At w (fun p=>w1.heap.size≤p∧p<w.heap.size) (numV x) [.int .i64 1,.int .i64 x,.string ⟨#[]⟩,.slice none 0 0]:=by
    simp only [numV,V.At,VAll]
    exact⟨none,0,rfl,Nat.le_refl _,fun _=>rfl,trivial⟩
   have hrw:RowOf w (fun p=>w1.heap.size≤p∧p<w.heap.size) [numV x] [.int .i64 1,.int .i64 x,.string ⟨#[]⟩,.slice none 0 0]:=by have:=RowOf.snoc RowOf.nil hat; exact this
   obtain⟨a3,c3,cells3,w',hr,hg,hmade⟩:=makingB_append hM [numV x] _ 1 c w1.heap.size _ 68 o.type hV h3 rfl hrw hbw hvl (by decide) (by decide) hn
   rw [if_pos hw]
   unfold Oper.wp
   rw [show (execOp A.eval o).run Tryz.prog w = .ok (.value (.slice a3 (acc.length+[numV x].length) c3)) w' by
    unfold execOp
    simp only [ho1,resolve,invoke,builtin,Sem.run_bind,Sem.run_pure,Result.andThen_ok,List.map_toArray,List.map_cons,List.map_nil,x15,x18,hr]]
   refine hk _ _ ⟨a3,c3,cells3,rfl,hmade⟩ ⟨grown_trans hC.1 hg,fun h=>by rw [Vals.set_same] at h; cases h⟩ ?_
   intro j u hj hji _ hd h
   match j,h with
   | 0,h=>exact h
   | 1,h=>exact h
   | 2,h=>exact h
   | 3,h=>exact h
   | 4,h=>exact absurd rfl (hd 5 (by rw [hsz]; decide) rfl).1
   | 5,h=>exact absurd rfl hji
   | 6,h=>exact h
   | _+7,h=>trivial
 | 6,_ =>
   have ho1:=opIs ho (p:=.fieldAddr 70 (.tmp 3) 3) (by kernel_rfl)
   have hg:=guardIs ho (p:=none) (by kernel_rfl)
   intro e A w hA hC hp hup K hk
   replace hk:Next (regOf Tryz.f67 5) (fun w=>(fun w=>w1.grownBy w (Value.slice va acc.length vc).ownBlock) w∧(e 5=none→(fun w=>MakingB base bx acc va vc cells w) w)) (wvnT base bx x va vc acc cells w1) wvnD 6 e A w o.dst K:=hk.next fun v w h=>⟨h.1,fun he=>h.2 (by rwa [Vals.set_other e v (by decide)] at he)⟩
   have hCM:=hC
   have x3:A.eval (.tmp 3) = .pointer (some ⟨bx,0,none⟩):=filled_base hA (by kernel_rfl) b3
   have hw:Region.wanted o (yielded (regOf Tryz.f67 5) A.tmps)=true:=wanted_free hg
   refine step_pure (v:=.pointer (some ⟨bx,3,none⟩)) hk hCM hw ?_ rfl
   unfold execOp
   simp only [ho1]
   generalize A.eval=ρ at x3 ⊢
   simp [go_sem,x3]
 | _+7,h=>exact absurd h (by omega)
def wvlT (BH bx:Nat) (tm vo ba bt:Int) (ar:Option Addr) (nr cr:Nat) (rs:List Rc) (sn:ByteArray) (av:Option Addr) (nv cv:Nat) (va:Option Addr) (N vc:Nat) (w1:World):Nat→Value→World→Prop
 | 0,v,w=>v = .pointer (some ⟨BH,0,none⟩)
 | 1,v,w=>v = .int .i64 tm
 | 2,v,w=>v = .agg #[.int .i64 1,.int .i64 tm,.string ⟨#[]⟩,.slice none 0 0]
 | 3,v,w=>v = .pointer (some ⟨BH,1,none⟩)
 | 4,v,w=>v = .int .i64 vo
 | 5,v,w=>v = .agg #[.int .i64 1,.int .i64 vo,.string ⟨#[]⟩,.slice none 0 0]
 | 6,v,w=>v = .pointer (some ⟨BH,2,none⟩)
 | 7,v,w=>v = .pointer (some ⟨BH,2,none⟩)
 | 8,v,w=>v = .int .i64 ba
 | 9,v,w=>v = .agg #[.int .i64 1,.int .i64 ba,.string ⟨#[]⟩,.slice none 0 0]
 | 10,v,w=>v = .pointer (some ⟨BH,2,none⟩)
 | 11,v,w=>v = .pointer (some ⟨BH,3,none⟩)
 | 12,v,w=>v = .int .i64 bt
 | 13,v,w=>v = .agg #[.int .i64 1,.int .i64 bt,.string ⟨#[]⟩,.slice none 0 0]
 | 14,v,w=>v = .pointer (some ⟨BH,5,none⟩)
 | 15,v,w=>v = .string sn
 | 16,v,w=>v = .agg #[.int .i64 2,.int .i64 0,.string sn,.slice none 0 0]
 | 17,v,w=>v = .agg #[.int .i64 3,.int .i64 0,.string ⟨#[]⟩,.slice va N vc]
 | 18,v,w=>v = .pointer (some ⟨BH,2,none⟩)
 | 19,v,w=>v = .pointer (some ⟨BH,4,none⟩)
 | 20,v,w=>v = .slice ar nr cr
 | 21,v,w=>∃ ra rc,v = .agg #[.int .i64 3,.int .i64 0,.string ⟨#[]⟩,.slice ra nr rc]∧V.At w (fun p=>w1.heap.size≤p∧p<w.heap.size) (listV (rs.map recV)) [.int .i64 3,.int .i64 0,.string ⟨#[]⟩,.slice ra nr rc]
 | 22,v,w=>∃ ra rc c,v = .slice (some ⟨c,0,none⟩) 7 7∧(V.At w (fun p=>w1.heap.size≤p∧p<w.heap.size) (listV (rs.map recV)) [.int .i64 3,.int .i64 0,.string ⟨#[]⟩,.slice ra nr rc])∧w1.heap.size≤c∧w.heap[c]? = some (.cells #[.int .i64 1,.int .i64 tm,.string ⟨#[]⟩,.slice none 0 0,.int .i64 1,.int .i64 vo,.string ⟨#[]⟩,.slice none 0 0,.int .i64 1,.int .i64 ba,.string ⟨#[]⟩,.slice none 0 0,.int .i64 1,.int .i64 bt,.string ⟨#[]⟩,.slice none 0 0,.int .i64 2,.int .i64 0,.string sn,.slice none 0 0,.int .i64 3,.int .i64 0,.string ⟨#[]⟩,.slice va N vc,.int .i64 3,.int .i64 0,.string ⟨#[]⟩,.slice ra nr rc] 70 (0,0))
 | 23,v,w=>∃ ra rc c,v = .agg #[.int .i64 3,.int .i64 0,.string ⟨#[]⟩,.slice (some ⟨c,0,none⟩) 7 7]∧(V.At w (fun p=>w1.heap.size≤p∧p<w.heap.size) (listV (rs.map recV)) [.int .i64 3,.int .i64 0,.string ⟨#[]⟩,.slice ra nr rc])∧w1.heap.size≤c∧w.heap[c]? = some (.cells #[.int .i64 1,.int .i64 tm,.string ⟨#[]⟩,.slice none 0 0,.int .i64 1,.int .i64 vo,.string ⟨#[]⟩,.slice none 0 0,.int .i64 1,.int .i64 ba,.string ⟨#[]⟩,.slice none 0 0,.int .i64 1,.int .i64 bt,.string ⟨#[]⟩,.slice none 0 0,.int .i64 2,.int .i64 0,.string sn,.slice none 0 0,.int .i64 3,.int .i64 0,.string ⟨#[]⟩,.slice va N vc,.int .i64 3,.int .i64 0,.string ⟨#[]⟩,.slice ra nr rc] 70 (0,0))
 | _,_,_=>True
def wvlD:Nat→List Nat
 | _=>[]
theorem wvl_keep (BH bx:Nat) (tm vo ba bt:Int) (ar:Option Addr) (nr cr:Nat) (rs:List Rc) (sn:ByteArray) (av:Option Addr) (nv cv:Nat) (va:Option Addr) (N vc:Nat) (w1:World):∀ (j:Nat) (u:Value) (w w':World),Below w.heap.size w w'→(wvlT BH bx tm vo ba bt ar nr cr rs sn av nv cv va N vc w1) j u w→(wvlT BH bx tm vo ba bt ar nr cr rs sn av nv cv va N vc w1) j u w'
 | 21,u,w,w',hb,h=>by obtain⟨ra,rc,rfl,h1⟩:=h; exact⟨ra,rc,rfl,V.At.move (fun p hp=>⟨hp.1,Nat.lt_of_lt_of_le hp.2 hb.size⟩) (fun p hp=>hb.block p hp.2) _ _ h1⟩
 | 22,u,w,w',hb,h=>by obtain⟨ra,rc,c,rfl,h1,h2,h3⟩:=h; exact⟨ra,rc,c,rfl,V.At.move (fun p hp=>⟨hp.1,Nat.lt_of_lt_of_le hp.2 hb.size⟩) (fun p hp=>hb.block p hp.2) _ _ h1,h2,(hb.block _ (lt_of_block h3)).trans h3⟩
 | 23,u,w,w',hb,h=>by obtain⟨ra,rc,c,rfl,h1,h2,h3⟩:=h; exact⟨ra,rc,c,rfl,V.At.move (fun p hp=>⟨hp.1,Nat.lt_of_lt_of_le hp.2 hb.size⟩) (fun p hp=>hb.block p hp.2) _ _ h1,h2,(hb.block _ (lt_of_block h3)).trans h3⟩
 | 0,u,w,w',hb,h=>h
 | 1,u,w,w',hb,h=>h
 | 2,u,w,w',hb,h=>h
 | 3,u,w,w',hb,h=>h
 | 4,u,w,w',hb,h=>h
 | 5,u,w,w',hb,h=>h
 | 6,u,w,w',hb,h=>h
 | 7,u,w,w',hb,h=>h
 | 8,u,w,w',hb,h=>h
 | 9,u,w,w',hb,h=>h
 | 10,u,w,w',hb,h=>h
 | 11,u,w,w',hb,h=>h
 | 12,u,w,w',hb,h=>h
 | 13,u,w,w',hb,h=>h
 | 14,u,w,w',hb,h=>h
 | 15,u,w,w',hb,h=>h
 | 16,u,w,w',hb,h=>h
 | 17,u,w,w',hb,h=>h
 | 18,u,w,w',hb,h=>h
 | 19,u,w,w',hb,h=>h
 | 20,u,w,w',hb,h=>h
 | _+24,u,w,w',hb,h=>trivial
set_option maxHeartbeats 4000000 in
theorem wvl_steps (BH bx:Nat) (tm vo ba bt:Int) (ar:Option Addr) (nr cr:Nat) (rs:List Rc) (sn:ByteArray) (av:Option Addr) (nv cv:Nat) (va:Option Addr) (N vc:Nat) (w1:World) (hBH:BH<w1.heap.size) (hBHo:w1.heap[BH]? = some (.cells #[.int .i64 tm,.int .i64 vo,.int .i64 ba,.int .i64 bt,.slice ar nr cr,.string sn,.slice av nv cv] 42 (0,0))) (hbx:bx<w1.heap.size) (hbxo:w1.heap[bx]? = some (.cells #[.int .i64 3,.int .i64 0,.string ⟨#[]⟩,.slice va N vc] 70 (0,0))) (hrs:rcE.Sl w1 ar nr rs) (hnr:nr≤200) {a:Act}(hs:a.tmps.size=46) (b1:a.eval (.tmp 1) = .pointer (some ⟨BH,0,none⟩)) (b3:a.eval (.tmp 3) = .pointer (some ⟨bx,0,none⟩)):∀ i o,i<24→(regOf Tryz.f67 7)[i]? = some o→StepOk Tryz.prog (regOf Tryz.f67 7) a (fun w=>Below w1.heap.size w1 w) (wvlT BH bx tm vo ba bt ar nr cr rs sn av nv cv va N vc w1) wvlD i o:=by
 have hz:∀ t,Nat.blt t 46=true→Nat.blt t a.tmps.size=true:=fun t h=>by rw [hs]; exact h
 have hsz:(regOf Tryz.f67 7).size=25:=by kernel_rfl
 intro i o hii ho
 match i,hii with
 | 0,_ =>
   have ho1:=opIs ho (p:=.fieldAddr 42 (.tmp 1) 0) (by kernel_rfl)
   have hg:=guardIs ho (p:=none) (by kernel_rfl)
   intro e A w hA hC hp K hk
   have x1:A.eval (.tmp 1) = .pointer (some ⟨BH,0,none⟩):=filled_base hA (by kernel_rfl) b1
   have hw:Region.wanted o (yielded (regOf Tryz.f67 7) A.tmps)=true:=wanted_free hg
   refine step_pure (v:=.pointer (some ⟨BH,0,none⟩)) hk hC hw ?_ rfl
   unfold execOp
   simp only [ho1]
   generalize A.eval=ρ at x1 ⊢
   simp [go_sem,x1]
 | 1,_ =>
   have ho1:=opIs ho (p:=.load 3 (.tmp 22)) (by kernel_rfl)
   have hg:=guardIs ho (p:=none) (by kernel_rfl)
   intro e A w hA hC hp K hk
   have x22:A.eval (.tmp 22) = .pointer (some ⟨BH,0,none⟩):=op_tmp hA hp 22 0 (by kernel_rfl) (by kernel_rfl) (by kernel_rfl) (hz _ rfl)
   have hw:Region.wanted o (yielded (regOf Tryz.f67 7) A.tmps)=true:=wanted_free hg
   have e1:=(Lib.cell_of_heap ((hC.block BH hBH).trans hBHo) 0).trans (show _=some (Value.int .i64 tm) from rfl)
   refine step_pure (v:=.int .i64 tm) hk hC hw ?_ rfl
   unfold execOp
   simp only [ho1]
   generalize A.eval=ρ at x22 ⊢
   simp [go_sem,x22,e1]
 | 2,_ =>
   have ho1:=opIs ho (p:=.call { callee:=(.value (.func 54)),args:=#[(.tmp 23)],argTypes:=#[3] }) (by kernel_rfl)
   have hg:=guardIs ho (p:=none) (by kernel_rfl)
   intro e A w hA hC hp K hk
   have x23:A.eval (.tmp 23) = .int .i64 tm:=op_tmp hA hp 23 1 (by kernel_rfl) (by kernel_rfl) (by kernel_rfl) (hz _ rfl)
   have hw:Region.wanted o (yielded (regOf Tryz.f67 7) A.tmps)=true:=wanted_free hg
   refine step_call (f:=54) (args:=#[.int .i64 tm]) hk hw ?_ ?_
   ·unfold execOp
    simp only [ho1]
    have xf:∀ f,A.eval (.func f) = .func (.func f) #[] #[]:=fun _=>rfl
    generalize A.eval=ρ at x23 xf ⊢
    simp [go_sem,xf,x23]
   ·refine (wnum_any tm w).mono ?_
    rintro en w' ⟨rfl,hb'⟩
    exact⟨_,rfl,rfl,below_then hC hb' hC.size,fun j u _ _ _ _ h=>wvl_keep BH bx tm vo ba bt ar nr cr rs sn av nv cv va N vc w1 j u w _ hb' h⟩
 | 3,_ =>
   have ho1:=opIs ho (p:=.fieldAddr 42 (.tmp 1) 1) (by kernel_rfl)
   have hg:=guardIs ho (p:=none) (by kernel_rfl)
   intro e A w hA hC hp K hk
   have x1:A.eval (.tmp 1) = .pointer (some ⟨BH,0,none⟩):=filled_base hA (by kernel_rfl) b1
   have hw:Region.wanted o (yielded (regOf Tryz.f67 7) A.tmps)=true:=wanted_free hg
   refine step_pure (v:=.pointer (some ⟨BH,1,none⟩)) hk hC hw ?_ rfl
   unfold execOp
   simp only [ho1]
   generalize A.eval=ρ at x1 ⊢
   simp [go_sem,x1]
 | 4,_ =>
   have ho1:=opIs ho (p:=.load 3 (.tmp 25)) (by kernel_rfl)
   have hg:=guardIs ho (p:=none) (by kernel_rfl)
   intro e A w hA hC hp K hk
   have x25:A.eval (.tmp 25) = .pointer (some ⟨BH,1,none⟩):=op_tmp hA hp 25 3 (by kernel_rfl) (by kernel_rfl) (by kernel_rfl) (hz _ rfl)
   have hw:Region.wanted o (yielded (regOf Tryz.f67 7) A.tmps)=true:=wanted_free hg
   have e1:=(Lib.cell_of_heap ((hC.block BH hBH).trans hBHo) 1).trans (show _=some (Value.int .i64 vo) from rfl)
   refine step_pure (v:=.int .i64 vo) hk hC hw ?_ rfl
   unfold execOp
   simp only [ho1]
   generalize A.eval=ρ at x25 ⊢
   simp [go_sem,x25,e1]
 | 5,_ =>
   have ho1:=opIs ho (p:=.call { callee:=(.value (.func 54)),args:=#[(.tmp 26)],argTypes:=#[3] }) (by kernel_rfl)
   have hg:=guardIs ho (p:=none) (by kernel_rfl)
   intro e A w hA hC hp K hk
   have x26:A.eval (.tmp 26) = .int .i64 vo:=op_tmp hA hp 26 4 (by kernel_rfl) (by kernel_rfl) (by kernel_rfl) (hz _ rfl)
   have hw:Region.wanted o (yielded (regOf Tryz.f67 7) A.tmps)=true:=wanted_free hg
   refine step_call (f:=54) (args:=#[.int .i64 vo]) hk hw ?_ ?_
   ·unfold execOp
    simp only [ho1]
    have xf:∀ f,A.eval (.func f) = .func (.func f) #[] #[]:=fun _=>rfl
    generalize A.eval=ρ at x26 xf ⊢
    simp [go_sem,xf,x26]
   ·refine (wnum_any vo w).mono ?_
    rintro en w' ⟨rfl,hb'⟩
    exact⟨_,rfl,rfl,below_then hC hb' hC.size,fun j u _ _ _ _ h=>wvl_keep BH bx tm vo ba bt ar nr cr rs sn av nv cv va N vc w1 j u w _ hb' h⟩
 | 6,_ =>
   have ho1:=opIs ho (p:=.fieldAddr 42 (.tmp 1) 2) (by kernel_rfl)
   have hg:=guardIs ho (p:=none) (by kernel_rfl)
   intro e A w hA hC hp K hk
   have x1:A.eval (.tmp 1) = .pointer (some ⟨BH,0,none⟩):=filled_base hA (by kernel_rfl) b1
   have hw:Region.wanted o (yielded (regOf Tryz.f67 7) A.tmps)=true:=wanted_free hg
   refine step_pure (v:=.pointer (some ⟨BH,2,none⟩)) hk hC hw ?_ rfl
   unfold execOp
   simp only [ho1]
   generalize A.eval=ρ at x1 ⊢
   simp [go_sem,x1]
 | 7,_ =>
   have ho1:=opIs ho (p:=.fieldAddr 40 (.tmp 28) 0) (by kernel_rfl)
   have hg:=guardIs ho (p:=none) (by kernel_rfl)
   intro e A w hA hC hp K hk
   have x28:A.eval (.tmp 28) = .pointer (some ⟨BH,2,none⟩):=op_tmp hA hp 28 6 (by kernel_rfl) (by kernel_rfl) (by kernel_rfl) (hz _ rfl)
   have hw:Region.wanted o (yielded (regOf Tryz.f67 7) A.tmps)=true:=wanted_free hg
   refine step_pure (v:=.pointer (some ⟨BH,2,none⟩)) hk hC hw ?_ rfl
   unfold execOp
   simp only [ho1]
   generalize A.eval=ρ at x28 ⊢
   simp [go_sem,x28]
 | 8,_ =>
   have ho1:=opIs ho (p:=.load 3 (.tmp 29)) (by kernel_rfl)
   have hg:=guardIs ho (p:=none) (by kernel_rfl)
   intro e A w hA hC hp K hk
   have x29:A.eval (.tmp 29) = .pointer (some ⟨BH,2,none⟩):=op_tmp hA hp 29 7 (by kernel_rfl) (by kernel_rfl) (by kernel_rfl) (hz _ rfl)
   have hw:Region.wanted o (yielded (regOf Tryz.f67 7) A.tmps)=true:=wanted_free hg
   have e1:=(Lib.cell_of_heap ((hC.block BH hBH).trans hBHo) 2).trans (show _=some (Value.int .i64 ba) from rfl)
   refine step_pure (v:=.int .i64 ba) hk hC hw ?_ rfl
   unfold execOp
   simp only [ho1]
   generalize A.eval=ρ at x29 ⊢
   simp [go_sem,x29,e1]
 | 9,_ =>
   have ho1:=opIs ho (p:=.call { callee:=(.value (.func 54)),args:=#[(.tmp 30)],argTypes:=#[3] }) (by kernel_rfl)
   have hg:=guardIs ho (p:=none) (by kernel_rfl)
   intro e A w hA hC hp K hk
   have x30:A.eval (.tmp 30) = .int .i64 ba:=op_tmp hA hp 30 8 (by kernel_rfl) (by kernel_rfl) (by kernel_rfl) (hz _ rfl)
   have hw:Region.wanted o (yielded (regOf Tryz.f67 7) A.tmps)=true:=wanted_free hg
   refine step_call (f:=54) (args:=#[.int .i64 ba]) hk hw ?_ ?_
   ·unfold execOp
    simp only [ho1]
    have xf:∀ f,A.eval (.func f) = .func (.func f) #[] #[]:=fun _=>rfl
    generalize A.eval=ρ at x30 xf ⊢
    simp [go_sem,xf,x30]
   ·refine (wnum_any ba w).mono ?_
    rintro en w' ⟨rfl,hb'⟩
    exact⟨_,rfl,rfl,below_then hC hb' hC.size,fun j u _ _ _ _ h=>wvl_keep BH bx tm vo ba bt ar nr cr rs sn av nv cv va N vc w1 j u w _ hb' h⟩
 | 10,_ =>
   have ho1:=opIs ho (p:=.fieldAddr 42 (.tmp 1) 2) (by kernel_rfl)
   have hg:=guardIs ho (p:=none) (by kernel_rfl)
   intro e A w hA hC hp K hk
   have x1:A.eval (.tmp 1) = .pointer (some ⟨BH,0,none⟩):=filled_base hA (by kernel_rfl) b1
   have hw:Region.wanted o (yielded (regOf Tryz.f67 7) A.tmps)=true:=wanted_free hg
   refine step_pure (v:=.pointer (some ⟨BH,2,none⟩)) hk hC hw ?_ rfl
   unfold execOp
   simp only [ho1]
   generalize A.eval=ρ at x1 ⊢
   simp [go_sem,x1]
 | 11,_ =>
   have ho1:=opIs ho (p:=.fieldAddr 40 (.tmp 32) 1) (by kernel_rfl)
   have hg:=guardIs ho (p:=none) (by kernel_rfl)
   intro e A w hA hC hp K hk
   have x32:A.eval (.tmp 32) = .pointer (some ⟨BH,2,none⟩):=op_tmp hA hp 32 10 (by kernel_rfl) (by kernel_rfl) (by kernel_rfl) (hz _ rfl)
   have hw:Region.wanted o (yielded (regOf Tryz.f67 7) A.tmps)=true:=wanted_free hg
   refine step_pure (v:=.pointer (some ⟨BH,3,none⟩)) hk hC hw ?_ rfl
   unfold execOp
   simp only [ho1]
   generalize A.eval=ρ at x32 ⊢
   simp [go_sem,x32]
 | 12,_ =>
   have ho1:=opIs ho (p:=.load 3 (.tmp 33)) (by kernel_rfl)
   have hg:=guardIs ho (p:=none) (by kernel_rfl)
   intro e A w hA hC hp K hk
   have x33:A.eval (.tmp 33) = .pointer (some ⟨BH,3,none⟩):=op_tmp hA hp 33 11 (by kernel_rfl) (by kernel_rfl) (by kernel_rfl) (hz _ rfl)
   have hw:Region.wanted o (yielded (regOf Tryz.f67 7) A.tmps)=true:=wanted_free hg
   have e1:=(Lib.cell_of_heap ((hC.block BH hBH).trans hBHo) 3).trans (show _=some (Value.int .i64 bt) from rfl)
   refine step_pure (v:=.int .i64 bt) hk hC hw ?_ rfl
   unfold execOp
   simp only [ho1]
   generalize A.eval=ρ at x33 ⊢
   simp [go_sem,x33,e1]
 | 13,_ =>
   have ho1:=opIs ho (p:=.call { callee:=(.value (.func 54)),args:=#[(.tmp 34)],argTypes:=#[3] }) (by kernel_rfl)
   have hg:=guardIs ho (p:=none) (by kernel_rfl)
   intro e A w hA hC hp K hk
   have x34:A.eval (.tmp 34) = .int .i64 bt:=op_tmp hA hp 34 12 (by kernel_rfl) (by kernel_rfl) (by kernel_rfl) (hz _ rfl)
   have hw:Region.wanted o (yielded (regOf Tryz.f67 7) A.tmps)=true:=wanted_free hg
   refine step_call (f:=54) (args:=#[.int .i64 bt]) hk hw ?_ ?_
   ·unfold execOp
    simp only [ho1]
    have xf:∀ f,A.eval (.func f) = .func (.func f) #[] #[]:=fun _=>rfl
    generalize A.eval=ρ at x34 xf ⊢
    simp [go_sem,xf,x34]
   ·refine (wnum_any bt w).mono ?_
    rintro en w' ⟨rfl,hb'⟩
    exact⟨_,rfl,rfl,below_then hC hb' hC.size,fun j u _ _ _ _ h=>wvl_keep BH bx tm vo ba bt ar nr cr rs sn av nv cv va N vc w1 j u w _ hb' h⟩
 | 14,_ =>
   have ho1:=opIs ho (p:=.fieldAddr 42 (.tmp 1) 3) (by kernel_rfl)
   have hg:=guardIs ho (p:=none) (by kernel_rfl)
   intro e A w hA hC hp K hk
   have x1:A.eval (.tmp 1) = .pointer (some ⟨BH,0,none⟩):=filled_base hA (by kernel_rfl) b1
   have hw:Region.wanted o (yielded (regOf Tryz.f67 7) A.tmps)=true:=wanted_free hg
   refine step_pure (v:=.pointer (some ⟨BH,5,none⟩)) hk hC hw ?_ rfl
   unfold execOp
   simp only [ho1]
   generalize A.eval=ρ at x1 ⊢
   simp [go_sem,x1]
 | 15,_ =>
   have ho1:=opIs ho (p:=.load 9 (.tmp 36)) (by kernel_rfl)
   have hg:=guardIs ho (p:=none) (by kernel_rfl)
   intro e A w hA hC hp K hk
   have x36:A.eval (.tmp 36) = .pointer (some ⟨BH,5,none⟩):=op_tmp hA hp 36 14 (by kernel_rfl) (by kernel_rfl) (by kernel_rfl) (hz _ rfl)
   have hw:Region.wanted o (yielded (regOf Tryz.f67 7) A.tmps)=true:=wanted_free hg
   have e1:=(Lib.cell_of_heap ((hC.block BH hBH).trans hBHo) 5).trans (show _=some (Value.string sn) from rfl)
   refine step_pure (v:=.string sn) hk hC hw ?_ rfl
   unfold execOp
   simp only [ho1]
   generalize A.eval=ρ at x36 ⊢
   simp [go_sem,x36,e1]
 | 16,_ =>
   have ho1:=opIs ho (p:=.build 70 #[(0,(.const (.int .i64 2))),(2,(.tmp 37))]) (by kernel_rfl)
   have hg:=guardIs ho (p:=none) (by kernel_rfl)
   intro e A w hA hC hp K hk
   have x37:A.eval (.tmp 37) = .string sn:=op_tmp hA hp 37 15 (by kernel_rfl) (by kernel_rfl) (by kernel_rfl) (hz _ rfl)
   have hw:Region.wanted o (yielded (regOf Tryz.f67 7) A.tmps)=true:=wanted_free hg
   refine step_pure (v:=.agg #[.int .i64 2,.int .i64 0,.string sn,.slice none 0 0]) hk hC hw ?_ rfl
   unfold execOp
   simp only [ho1]
   have xc:∀ v,A.eval (.const v)=v:=fun _=>rfl
   generalize A.eval=ρ at x37 xc ⊢
   simp [go_sem,x37,xc]
 | 17,_ =>
   have ho1:=opIs ho (p:=.load 70 (.tmp 3)) (by kernel_rfl)
   have hg:=guardIs ho (p:=none) (by kernel_rfl)
   intro e A w hA hC hp K hk
   have x3:A.eval (.tmp 3) = .pointer (some ⟨bx,0,none⟩):=filled_base hA (by kernel_rfl) b3
   have hw:Region.wanted o (yielded (regOf Tryz.f67 7) A.tmps)=true:=wanted_free hg
   have e0:=(Lib.cell_of_heap ((hC.block bx hbx).trans hbxo) 0).trans (show _=some (Value.int .i64 3) from rfl)
   have e1:=(Lib.cell_of_heap ((hC.block bx hbx).trans hbxo) 1).trans (show _=some (Value.int .i64 0) from rfl)
   have e2:=(Lib.cell_of_heap ((hC.block bx hbx).trans hbxo) 2).trans (show _=some (Value.string ⟨#[]⟩) from rfl)
   have e3:=(Lib.cell_of_heap ((hC.block bx hbx).trans hbxo) 3).trans (show _=some (Value.slice va N vc) from rfl)
   refine step_pure (v:=.agg #[.int .i64 3,.int .i64 0,.string ⟨#[]⟩,.slice va N vc]) hk hC hw ?_ rfl
   unfold execOp
   simp only [ho1]
   generalize A.eval=ρ at x3 ⊢
   simp [go_sem,x3,e0,e1,e2,e3]
 | 18,_ =>
   have ho1:=opIs ho (p:=.fieldAddr 42 (.tmp 1) 2) (by kernel_rfl)
   have hg:=guardIs ho (p:=none) (by kernel_rfl)
   intro e A w hA hC hp K hk
   have x1:A.eval (.tmp 1) = .pointer (some ⟨BH,0,none⟩):=filled_base hA (by kernel_rfl) b1
   have hw:Region.wanted o (yielded (regOf Tryz.f67 7) A.tmps)=true:=wanted_free hg
   refine step_pure (v:=.pointer (some ⟨BH,2,none⟩)) hk hC hw ?_ rfl
   unfold execOp
   simp only [ho1]
   generalize A.eval=ρ at x1 ⊢
   simp [go_sem,x1]
 | 19,_ =>
   have ho1:=opIs ho (p:=.fieldAddr 40 (.tmp 40) 2) (by kernel_rfl)
   have hg:=guardIs ho (p:=none) (by kernel_rfl)
   intro e A w hA hC hp K hk
   have x40:A.eval (.tmp 40) = .pointer (some ⟨BH,2,none⟩):=op_tmp hA hp 40 18 (by kernel_rfl) (by kernel_rfl) (by kernel_rfl) (hz _ rfl)
   have hw:Region.wanted o (yielded (regOf Tryz.f67 7) A.tmps)=true:=wanted_free hg
   refine step_pure (v:=.pointer (some ⟨BH,4,none⟩)) hk hC hw ?_ rfl
   unfold execOp
   simp only [ho1]
   generalize A.eval=ρ at x40 ⊢
   simp [go_sem,x40]
 | 20,_ =>
   have ho1:=opIs ho (p:=.load 22 (.tmp 41)) (by kernel_rfl)
   have hg:=guardIs ho (p:=none) (by kernel_rfl)
   intro e A w hA hC hp K hk
   have x41:A.eval (.tmp 41) = .pointer (some ⟨BH,4,none⟩):=op_tmp hA hp 41 19 (by kernel_rfl) (by kernel_rfl) (by kernel_rfl) (hz _ rfl)
   have hw:Region.wanted o (yielded (regOf Tryz.f67 7) A.tmps)=true:=wanted_free hg
   have e1:=(Lib.cell_of_heap ((hC.block BH hBH).trans hBHo) 4).trans (show _=some (Value.slice ar nr cr) from rfl)
   refine step_pure (v:=.slice ar nr cr) hk hC hw ?_ rfl
   unfold execOp
   simp only [ho1]
   generalize A.eval=ρ at x41 ⊢
   simp [go_sem,x41,e1]
 | 21,_ =>
   have ho1:=opIs ho (p:=.call { callee:=(.value (.func 55)),args:=#[(.tmp 42)],argTypes:=#[22] }) (by kernel_rfl)
   have hg:=guardIs ho (p:=none) (by kernel_rfl)
   intro e A w hA hC hp K hk
   have x42:A.eval (.tmp 42) = .slice ar nr cr:=op_tmp hA hp 42 20 (by kernel_rfl) (by kernel_rfl) (by kernel_rfl) (hz _ rfl)
   have hw:Region.wanted o (yielded (regOf Tryz.f67 7) A.tmps)=true:=wanted_free hg
   refine step_call (f:=55) (args:=#[.slice ar nr cr]) hk hw ?_ ?_
   ·unfold execOp
    simp only [ho1]
    have xf:∀ f,A.eval (.func f) = .func (.func f) #[] #[]:=fun _=>rfl
    generalize A.eval=ρ at x42 xf ⊢
    simp [go_sem,xf,x42]
   ·refine (wrecs_any ar nr cr rs w (hrs.keep hC) hnr).mono ?_
    rintro en w' ⟨ra,rc,rfl,hat,hb'⟩
    exact⟨_,rfl,⟨ra,rc,rfl,V.At.move (fun p hp=>⟨Nat.le_trans hC.size hp.1,hp.2⟩) (fun _ _=>rfl) _ _ hat⟩,below_then hC hb' hC.size,fun j u _ _ _ _ h=>wvl_keep BH bx tm vo ba bt ar nr cr rs sn av nv cv va N vc w1 j u w _ hb' h⟩
 | 22,_ =>
   have ho1:=opIs ho (p:=.buildSlice 68 7 #[(0,(.tmp 24)),(1,(.tmp 27)),(2,(.tmp 31)),(3,(.tmp 35)),(4,(.tmp 38)),(5,(.tmp 39)),(6,(.tmp 43))]) (by kernel_rfl)
   have hg:=guardIs ho (p:=none) (by kernel_rfl)
   intro e A w hA hC hp K hk
   have x24:A.eval (.tmp 24) = .agg #[.int .i64 1,.int .i64 tm,.string ⟨#[]⟩,.slice none 0 0]:=op_tmp hA hp 24 2 (by kernel_rfl) (by kernel_rfl) (by kernel_rfl) (hz _ rfl)
   have x27:A.eval (.tmp 27) = .agg #[.int .i64 1,.int .i64 vo,.string ⟨#[]⟩,.slice none 0 0]:=op_tmp hA hp 27 5 (by kernel_rfl) (by kernel_rfl) (by kernel_rfl) (hz _ rfl)
   have x31:A.eval (.tmp 31) = .agg #[.int .i64 1,.int .i64 ba,.string ⟨#[]⟩,.slice none 0 0]:=op_tmp hA hp 31 9 (by kernel_rfl) (by kernel_rfl) (by kernel_rfl) (hz _ rfl)
   have x35:A.eval (.tmp 35) = .agg #[.int .i64 1,.int .i64 bt,.string ⟨#[]⟩,.slice none 0 0]:=op_tmp hA hp 35 13 (by kernel_rfl) (by kernel_rfl) (by kernel_rfl) (hz _ rfl)
   have x38:A.eval (.tmp 38) = .agg #[.int .i64 2,.int .i64 0,.string sn,.slice none 0 0]:=op_tmp hA hp 38 16 (by kernel_rfl) (by kernel_rfl) (by kernel_rfl) (hz _ rfl)
   have x39:A.eval (.tmp 39) = .agg #[.int .i64 3,.int .i64 0,.string ⟨#[]⟩,.slice va N vc]:=op_tmp hA hp 39 17 (by kernel_rfl) (by kernel_rfl) (by kernel_rfl) (hz _ rfl)
   have x43:=op_tmp hA hp 43 21 (by kernel_rfl) (by kernel_rfl) (by kernel_rfl) (hz _ rfl)
   have hw:Region.wanted o (yielded (regOf Tryz.f67 7) A.tmps)=true:=wanted_free hg
   obtain⟨ra,rc,x43,h1⟩:=x43
   refine step_value (v:=.slice (some ⟨w.heap.size,0,none⟩) 7 7) (w':=w.alloc (.cells #[.int .i64 1,.int .i64 tm,.string ⟨#[]⟩,.slice none 0 0,.int .i64 1,.int .i64 vo,.string ⟨#[]⟩,.slice none 0 0,.int .i64 1,.int .i64 ba,.string ⟨#[]⟩,.slice none 0 0,.int .i64 1,.int .i64 bt,.string ⟨#[]⟩,.slice none 0 0,.int .i64 2,.int .i64 0,.string sn,.slice none 0 0,.int .i64 3,.int .i64 0,.string ⟨#[]⟩,.slice va N vc,.int .i64 3,.int .i64 0,.string ⟨#[]⟩,.slice ra nr rc] 70)) hk hw ?_ ?_ ?_ ?_
   ·unfold execOp
    simp only [ho1]
    generalize A.eval=ρ at x24 x27 x31 x35 x38 x39 x43 ⊢
    simp [go_sem,x24,x27,x31,x35,x38,x39,x43]
   ·exact⟨ra,rc,w.heap.size,rfl,V.At.move (fun p hp=>⟨hp.1,Nat.lt_of_lt_of_le hp.2 (World.grownBy_alloc w _ none).size⟩) (fun p hp=>heap_alloc_old w _ hp.2) _ _ h1,hC.size,heap_alloc_new w _⟩
   ·exact hC.alloc hC.size _
   ·intro j u _ _ _ _ h
    exact wvl_keep BH bx tm vo ba bt ar nr cr rs sn av nv cv va N vc w1 j u w _ ((Below.refl _ w).alloc (Nat.le_refl _) _) h
 | 23,_ =>
   have ho1:=opIs ho (p:=.build 70 #[(0,(.const (.int .i64 3))),(3,(.tmp 44))]) (by kernel_rfl)
   have hg:=guardIs ho (p:=none) (by kernel_rfl)
   intro e A w hA hC hp K hk
   have x44:=op_tmp hA hp 44 22 (by kernel_rfl) (by kernel_rfl) (by kernel_rfl) (hz _ rfl)
   have hw:Region.wanted o (yielded (regOf Tryz.f67 7) A.tmps)=true:=wanted_free hg
   obtain⟨ra,rc,c,x44,h1,h2,h3⟩:=x44
   refine step_pure (v:=.agg #[.int .i64 3,.int .i64 0,.string ⟨#[]⟩,.slice (some ⟨c,0,none⟩) 7 7]) hk hC hw ?_ ⟨ra,rc,c,rfl,h1,h2,h3⟩
   unfold execOp
   simp only [ho1]
   have xc:∀ v,A.eval (.const v)=v:=fun _=>rfl
   generalize A.eval=ρ at x44 xc ⊢
   simp [go_sem,x44,xc]
 | _+24,h=>exact absurd h (by omega)
end Go.Proofs.YtlpgbmaoenncjaaGreatDoor

namespace Go.Proofs.YtlpgbmaoenncjaaGreatDoor
open Go.RowKit
set_option linter.unusedVariables false
theorem hdV_small {h:Hd}(hs:shapedH h=true):(hdV h).cnt≤4611686018427387904∧(putL (hdV h)).length≤140737488355328:=by
 obtain⟨⟨k1,k2,⟨k3,k4,k5,k6,-,k7,-⟩,k8,k9⟩,hv,hr⟩:=shaped_in hs
 constructor
 ·unfold hdV
  rw [listV_cnt]
  simp only [cntAll,numV_cnt,textV_cnt]
  have:=votersV_cnt h.voters
  have:=recsV_cnt h.recs
  omega
 ·unfold hdV
  rw [listV_len]
  simp only [putAll,List.length_append,List.length_nil]
  have e0:=numV_len (n:=h.term) (by omega) (by omega)
  have e1:=numV_len (n:=h.vote) (by omega) (by omega)
  have e2:=numV_len (n:=h.base) (by omega) (by omega)
  have e3:=numV_len (n:=h.bt) (by omega) (by omega)
  have e8:=textV_len (s:=h.snap) (by omega)
  have e9:=votersV_len (l:=h.voters) (fun x hx=>by have:=hv x hx; exact⟨by omega,by omega⟩)
  have e10:=recsV_len (l:=h.recs) (fun x hx=>by have:=hr x hx; exact⟨⟨⟨by omega,by omega⟩,⟨by omega,by omega⟩⟩,by omega⟩)
  omega
theorem listV_at {w:World}{S:Nat→Prop}{l:List V}{cells:List Value}{c n:Nat}(hS:S c) (hrow:RowOf w S l cells) (hb:w.heap[c]? = some (.cells cells.toArray 70 (0,0))) (hn:n=l.length):V.At w S (listV l) [.int .i64 3,.int .i64 0,.string ⟨#[]⟩,.slice (some ⟨c,0,none⟩) n n]:=by
 subst hn
 simp only [listV,V.At]
 exact⟨_,_,rfl,Nat.le_refl _,fun h=>(by cases h),hrow.all hS (fun j u hj=>(Lib.cell_of_heap hb j).trans (by simpa using hj))⟩
set_option maxRecDepth 100000 in
set_option maxHeartbeats 2000000 in
theorem wvalue_any (h:Hd) (ar:Option Addr) (nr cr:Nat) (av:Option Addr) (nv cv:Nat) (w:World) (H:HdAt w h ar nr cr av nv cv) (h2:nr≤200) (h7:nv≤7) :
 Calls Tryz.prog 67 #[h.val ar nr cr av nv cv] w (fun e w'=>∃ a,e = .returned (.agg #[.int .i64 3,.int .i64 0,.string ⟨#[]⟩,.slice a 7 7])∧V.At w' (fun p=>w.heap.size≤p∧p<w'.heap.size) (hdV h) [.int .i64 3,.int .i64 0,.string ⟨#[]⟩,.slice a 7 7]∧Below w.heap.size w w'):=by
 obtain⟨tm,vo,ba,bt,rs,sn,vs⟩:=h
 unfold Hd.val
 dsimp only
 have HN:=Lib.hid (show nr=rs.length from H.rlen)
 have HNV:=Lib.hid (show nv=vs.length from H.vlen)
 have HRO:=Lib.hid (show rcE.Sl w ar nr rs from H.recs)
 have HVO:=Lib.hid (show SlAt w av nv (i64s vs) from H.voters)
 clear H
 have HB0:=Lib.hid ((((Below.refl _ w).alloc (Nat.le_refl _) (.cells #[.int .i64 tm,.int .i64 vo,.int .i64 ba,.int .i64 bt,.slice ar nr cr,.string sn,.slice av nv cv] 42)).alloc (by simp) (.cells #[.int .i64 0,.int .i64 0,.string ⟨#[]⟩,.slice none 0 0] 70)).alloc (by simp; omega) (.cells #[.int .i64 3,.int .i64 0,.string ⟨#[]⟩,.slice none 0 0] 70))
 have HK0:=Lib.hid ((Blk.both w (.cells #[.int .i64 tm,.int .i64 vo,.int .i64 ba,.int .i64 bt,.slice ar nr cr,.string sn,.slice av nv cv] 42) (.cells #[.int .i64 0,.int .i64 0,.string ⟨#[]⟩,.slice none 0 0] 70) _ _ [.int .i64 tm,.int .i64 vo,.int .i64 ba,.int .i64 bt,.slice ar nr cr,.string sn,.slice av nv cv] [.int .i64 0,.int .i64 0,.string ⟨#[]⟩,.slice none 0 0] rfl rfl).1.alloc (.cells #[.int .i64 3,.int .i64 0,.string ⟨#[]⟩,.slice none 0 0] 70))
 have HR0:=Lib.hid ((Blk.both w (.cells #[.int .i64 tm,.int .i64 vo,.int .i64 ba,.int .i64 bt,.slice ar nr cr,.string sn,.slice av nv cv] 42) (.cells #[.int .i64 0,.int .i64 0,.string ⟨#[]⟩,.slice none 0 0] 70) _ _ [.int .i64 tm,.int .i64 vo,.int .i64 ba,.int .i64 bt,.slice ar nr cr,.string sn,.slice av nv cv] [.int .i64 0,.int .i64 0,.string ⟨#[]⟩,.slice none 0 0] rfl rfl).2.alloc (.cells #[.int .i64 3,.int .i64 0,.string ⟨#[]⟩,.slice none 0 0] 70))
 have HF0:Hid (Four (((w.alloc (.cells #[.int .i64 tm,.int .i64 vo,.int .i64 ba,.int .i64 bt,.slice ar nr cr,.string sn,.slice av nv cv] 42)).alloc (.cells #[.int .i64 0,.int .i64 0,.string ⟨#[]⟩,.slice none 0 0] 70)).alloc (.cells #[.int .i64 3,.int .i64 0,.string ⟨#[]⟩,.slice none 0 0] 70)) (w.heap.size+2) 70 (.int .i64 3) (.int .i64 0) (.string ⟨#[]⟩) (.slice none 0 0)):=Lib.hid (by
  have hz:=heap_alloc_new ((w.alloc (.cells #[.int .i64 tm,.int .i64 vo,.int .i64 ba,.int .i64 bt,.slice ar nr cr,.string sn,.slice av nv cv] 42)).alloc (.cells #[.int .i64 0,.int .i64 0,.string ⟨#[]⟩,.slice none 0 0] 70)) (.cells #[.int .i64 3,.int .i64 0,.string ⟨#[]⟩,.slice none 0 0] 70)
  rw [World.size_alloc,World.size_alloc] at hz
  exact hz)
 have HS0:Hid ((((w.alloc (.cells #[.int .i64 tm,.int .i64 vo,.int .i64 ba,.int .i64 bt,.slice ar nr cr,.string sn,.slice av nv cv] 42)).alloc (.cells #[.int .i64 0,.int .i64 0,.string ⟨#[]⟩,.slice none 0 0] 70)).alloc (.cells #[.int .i64 3,.int .i64 0,.string ⟨#[]⟩,.slice none 0 0] 70)).heap.size=w.heap.size+3):=Lib.hid (by simp)
 go_enter Tryz.func67,Tryz.ntmps67
 go_upto_region 2 with fail
 generalize (((w.alloc (.cells #[.int .i64 tm,.int .i64 vo,.int .i64 ba,.int .i64 bt,.slice ar nr cr,.string sn,.slice av nv cv] 42)).alloc (.cells #[.int .i64 0,.int .i64 0,.string ⟨#[]⟩,.slice none 0 0] 70)).alloc (.cells #[.int .i64 3,.int .i64 0,.string ⟨#[]⟩,.slice none 0 0] 70))=w0 at *
 have hs0:=HS0.out
 have HM0:Hid (MakingB w0.heap.size (w.heap.size+2) [] none 0 [] w0):=Lib.hid (MakingB.start _ _ _ (by omega) (Nat.le_refl _) HF0.out)
 have k6:=HK0.out.cell (j:=6) rfl
 go_wp2_with fail
 clear k6
 go_loopg [10] nv (fun gk v wr=>∃ (k:Nat) (acc:List V) (va:Option Addr) (vc:Nat) (cells:List Value),k≤nv∧gk=nv - k∧v = .int .i64 (k:Int)∧Hid (acc=(vs.take k).map numV)∧Hid (MakingB w0.heap.size (w.heap.size+2) acc va vc cells wr)∧Hid (KeptB w0.heap.size (w.heap.size+2) w0 wr))
 case atStart=>exact⟨0,[],none,0,[],Nat.zero_le _,rfl,rfl,Lib.hid rfl,HM0,Lib.hid (KeptB.refl _ _ _)⟩
 case round =>
  clear HM0
  obtain⟨k,acc,va,vc,cells,hk,rfl,rfl,HACC,hM,hKP⟩:=hrel
  have HL:Hid (acc.length=k):=Lib.hid (by rw [HACC.out,List.length_map,List.length_take]; have:=HNV.out; omega)
  have HBr:=Lib.hid (HB0.out.trans (hKP.out.below (B:=w.heap.size) (by omega) (by omega)))
  by_cases hkn:k<nv
  ·have hki:(k:Int)<(nv:Int):=by omega
   have hkl:k<vs.length:=by rw [← HNV.out]; exact hkn
   obtain⟨-,b,off,rfl,hc⟩:=(HVO.out.keep HBr.out).i64 (by omega)
   have c0:=hc k hkl
   have HLI:Hid (acc.length≤7):=Lib.hid (by have:=HL.out; omega)
   have HMT:Hid (acc++[numV vs[k]]=(vs.take (k+1)).map numV):=Lib.hid (by rw [HACC.out,List.take_add_one,List.getElem?_eq_getElem hkl,List.map_append]; rfl)
   clear hc
   generalize vs[k]=xv at *
   go_wp2_with fail
   clear c0
   refine wp_region_lastE (regOf Tryz.f67 5) [some 14,some 15,some 16,some 17,some 18,some 19,some 20] 7 (wvnT w0.heap.size ((w.heap.size+2)) xv va vc acc cells wr) (fun e w'=>(wr.grownBy w' (Value.slice va acc.length vc).ownBlock)∧(e 5=none→MakingB w0.heap.size ((w.heap.size+2)) acc va vc cells w')) wvnD (by kernel_rfl) (by kernel_rfl) (by kernel_rfl) (by kernel_rfl) (by kernel_rfl) (by kernel_rfl) (by kernel_rfl) ⟨grown_of_below ((Below.refl _ _).drew) _,fun _=>hM.out.under ((Below.refl _ _).drew)⟩
    (wvn_steps w0.heap.size ((w.heap.size+2)) xv va vc acc cells wr (hM.out.le) (fun k hk=>(hM.out.own.lt k hk).2) (by have:=HLI.out; omega) (by kernel_rfl) (by kernel_rfl) (by kernel_rfl) (by kernel_rfl)) ?_
   intro oL hoL eL vs w9 hn hallL hCw9 hT KL hKL
   replace hn:vs.length=7:=hn
   obtain⟨v0,vs1,rfl,hn1⟩:=len_cons hn
   obtain⟨v1,vs2,rfl,hn2⟩:=len_cons hn1
   obtain⟨v2,vs3,rfl,hn3⟩:=len_cons hn2
   obtain⟨v3,vs4,rfl,hn4⟩:=len_cons hn3
   obtain⟨v4,vs5,rfl,hn5⟩:=len_cons hn4
   obtain⟨v5,vs6,rfl,hn6⟩:=len_cons hn5
   obtain⟨v6,vs7,rfl,hn7⟩:=len_cons hn6
   obtain rfl:=List.eq_nil_of_length_eq_zero hn7
   clear hn hn1 hn2 hn3 hn4 hn5 hn6 hn7
   obtain rfl:v0 = .pointer (some ⟨(w.heap.size+2),3,none⟩):=hT 0 v0 rfl (by kernel_rfl)
   obtain rfl:v1 = .slice va acc.length vc:=hT 1 v1 rfl (by kernel_rfl)
   obtain rfl:v2 = .int .i64 xv:=hT 2 v2 rfl (by kernel_rfl)
   obtain rfl:v3 = .agg #[.int .i64 1,.int .i64 xv,.string ⟨#[]⟩,.slice none 0 0]:=hT 3 v3 rfl (by kernel_rfl)
   have t5:=Lib.hid (hT 5 v5 rfl (by kernel_rfl))
   obtain rfl:v6 = .pointer (some ⟨(w.heap.size+2),3,none⟩):=hT 6 v6 rfl (by kernel_rfl)
   clear hT
   have hoL1:=opIs hoL (p:=.store 68 (.tmp 20) (.tmp 19)) (by kernel_rfl)
   have hgL:=guardIs hoL (p:=none) (by kernel_rfl)
   have hdL:oL.dst=none:=by have:=(show ((regOf Tryz.f67 5)[7]?).map (·.dst)=some (none) by kernel_rfl); rw [hoL] at this; simpa using this
   rw [if_pos (wanted_free hgL)]
   rw [hdL] at hKL
   simp only [puts,Act.put,List.setIfInBounds_toArray,List.set_cons_succ,List.set_cons_zero] at hKL ⊢
   obtain⟨hC9,-⟩:=hCw9
   obtain⟨a3,c3,cells3,e11,hmade⟩:=t5.out
   subst e11
   have e3:=hmade.box.c3
   have k3:=hmade.box.free 3
   unfold Oper.wp
   rw [show (execOp _ oL).run Tryz.prog w9 = .ok .skip (w9.setCell ⟨(w.heap.size+2),3,none⟩ (.slice a3 (acc.length+[numV xv].length) c3)) by unfold execOp; simp only [hoL1]; simp [go_sem,e3,k3]]
   show KL (Act.put _ oL.dst undef) _
   rw [hdL]
   refine hKL undef _ ?_
   have HMK:=Lib.hid hmade.store
   have HKN:=Lib.hid ((hKP.out.grown hC9 (by have:=hM.out.le; omega) (fun k hk=>.inl (hM.out.own.lt k hk).1)).grown (grown_setCell w9 ((w.heap.size+2)) 3 (.slice a3 (acc.length+[numV xv].length) c3)) (by have:=hC9.size; have:=hM.out.le; omega) (fun k hk=>.inr (Option.some.inj hk).symm))
   clear e3 k3 hmade t5 hC9 hKL hoL hoL1 hgL hdL hallL
   generalize w9.setCell ⟨(w.heap.size+2),3,none⟩ (.slice a3 (acc.length+[numV xv].length) c3)=w10 at *
   go_wp2_with fail
   go_roundg (nv - (k+1))
   case rel=>exact⟨k+1,_,a3,c3,cells3,by omega,rfl,by go_num,HMT,HMK,HKN⟩
   case measure=>omega
  ·obtain rfl:k=nv:=by omega
   have HACV:Hid (acc=vs.map numV):=Lib.hid (by rw [HACC.out,HNV.out,List.take_length])
   have HKz:=Lib.hid (show Blk wr w.heap.size _ _ from (hKP.out.block _ (by omega) (by omega)).trans HK0.out)
   have HRz:=Lib.hid (show Blk wr (w.heap.size+1) _ _ from (hKP.out.block _ (by omega) (by omega)).trans HR0.out)
   have hrz:=HRO.out.keep HBr.out
   have hle:=hM.out.le
   go_wp2_with fail
   refine wp_region_last (regOf Tryz.f67 7) [some 22,some 23,some 24,some 25,some 26,some 27,some 28,some 29,some 30,some 31,some 32,some 33,some 34,some 35,some 36,some 37,some 38,some 39,some 40,some 41,some 42,some 43,some 44,some 45] 24 (wvlT w.heap.size (w.heap.size+2) tm vo ba bt ar nr cr rs sn av k cv va acc.length vc wr) (fun w'=>Below wr.heap.size wr w') wvlD (by kernel_rfl) (by kernel_rfl) (by kernel_rfl) (by kernel_rfl) (by kernel_rfl) (by kernel_rfl) (by kernel_rfl) ((Below.refl _ _).drew)
    (wvl_steps w.heap.size (w.heap.size+2) tm vo ba bt ar nr cr rs sn av k cv va acc.length vc wr (by omega) HKz.out (by omega) hM.out.box hrz h2 (by kernel_rfl) (by kernel_rfl) (by kernel_rfl)) ?_
   intro oL hoL vs w9 hn hCw9 hT KL hKL
   replace hn:vs.length=24:=hn
   obtain⟨v0,vs1,rfl,hn1⟩:=len_cons hn
   obtain⟨v1,vs2,rfl,hn2⟩:=len_cons hn1
   obtain⟨v2,vs3,rfl,hn3⟩:=len_cons hn2
   obtain⟨v3,vs4,rfl,hn4⟩:=len_cons hn3
   obtain⟨v4,vs5,rfl,hn5⟩:=len_cons hn4
   obtain⟨v5,vs6,rfl,hn6⟩:=len_cons hn5
   obtain⟨v6,vs7,rfl,hn7⟩:=len_cons hn6
   obtain⟨v7,vs8,rfl,hn8⟩:=len_cons hn7
   obtain⟨v8,vs9,rfl,hn9⟩:=len_cons hn8
   obtain⟨v9,vs10,rfl,hn10⟩:=len_cons hn9
   obtain⟨v10,vs11,rfl,hn11⟩:=len_cons hn10
   obtain⟨v11,vs12,rfl,hn12⟩:=len_cons hn11
   obtain⟨v12,vs13,rfl,hn13⟩:=len_cons hn12
   obtain⟨v13,vs14,rfl,hn14⟩:=len_cons hn13
   obtain⟨v14,vs15,rfl,hn15⟩:=len_cons hn14
   obtain⟨v15,vs16,rfl,hn16⟩:=len_cons hn15
   obtain⟨v16,vs17,rfl,hn17⟩:=len_cons hn16
   obtain⟨v17,vs18,rfl,hn18⟩:=len_cons hn17
   obtain⟨v18,vs19,rfl,hn19⟩:=len_cons hn18
   obtain⟨v19,vs20,rfl,hn20⟩:=len_cons hn19
   obtain⟨v20,vs21,rfl,hn21⟩:=len_cons hn20
   obtain⟨v21,vs22,rfl,hn22⟩:=len_cons hn21
   obtain⟨v22,vs23,rfl,hn23⟩:=len_cons hn22
   obtain⟨v23,vs24,rfl,hn24⟩:=len_cons hn23
   obtain rfl:=List.eq_nil_of_length_eq_zero hn24
   clear hn hn1 hn2 hn3 hn4 hn5 hn6 hn7 hn8 hn9 hn10 hn11 hn12 hn13 hn14 hn15 hn16 hn17 hn18 hn19 hn20 hn21 hn22 hn23 hn24
   obtain rfl:v0 = .pointer (some ⟨w.heap.size,0,none⟩):=hT 0 v0 rfl (by kernel_rfl)
   obtain rfl:v1 = .int .i64 tm:=hT 1 v1 rfl (by kernel_rfl)
   obtain rfl:v2 = .agg #[.int .i64 1,.int .i64 tm,.string ⟨#[]⟩,.slice none 0 0]:=hT 2 v2 rfl (by kernel_rfl)
   obtain rfl:v3 = .pointer (some ⟨w.heap.size,1,none⟩):=hT 3 v3 rfl (by kernel_rfl)
   obtain rfl:v4 = .int .i64 vo:=hT 4 v4 rfl (by kernel_rfl)
   obtain rfl:v5 = .agg #[.int .i64 1,.int .i64 vo,.string ⟨#[]⟩,.slice none 0 0]:=hT 5 v5 rfl (by kernel_rfl)
   obtain rfl:v6 = .pointer (some ⟨w.heap.size,2,none⟩):=hT 6 v6 rfl (by kernel_rfl)
   obtain rfl:v7 = .pointer (some ⟨w.heap.size,2,none⟩):=hT 7 v7 rfl (by kernel_rfl)
   obtain rfl:v8 = .int .i64 ba:=hT 8 v8 rfl (by kernel_rfl)
   obtain rfl:v9 = .agg #[.int .i64 1,.int .i64 ba,.string ⟨#[]⟩,.slice none 0 0]:=hT 9 v9 rfl (by kernel_rfl)
   obtain rfl:v10 = .pointer (some ⟨w.heap.size,2,none⟩):=hT 10 v10 rfl (by kernel_rfl)
   obtain rfl:v11 = .pointer (some ⟨w.heap.size,3,none⟩):=hT 11 v11 rfl (by kernel_rfl)
   obtain rfl:v12 = .int .i64 bt:=hT 12 v12 rfl (by kernel_rfl)
   obtain rfl:v13 = .agg #[.int .i64 1,.int .i64 bt,.string ⟨#[]⟩,.slice none 0 0]:=hT 13 v13 rfl (by kernel_rfl)
   obtain rfl:v14 = .pointer (some ⟨w.heap.size,5,none⟩):=hT 14 v14 rfl (by kernel_rfl)
   obtain rfl:v15 = .string sn:=hT 15 v15 rfl (by kernel_rfl)
   obtain rfl:v16 = .agg #[.int .i64 2,.int .i64 0,.string sn,.slice none 0 0]:=hT 16 v16 rfl (by kernel_rfl)
   obtain rfl:v17 = .agg #[.int .i64 3,.int .i64 0,.string ⟨#[]⟩,.slice va acc.length vc]:=hT 17 v17 rfl (by kernel_rfl)
   obtain rfl:v18 = .pointer (some ⟨w.heap.size,2,none⟩):=hT 18 v18 rfl (by kernel_rfl)
   obtain rfl:v19 = .pointer (some ⟨w.heap.size,4,none⟩):=hT 19 v19 rfl (by kernel_rfl)
   obtain rfl:v20 = .slice ar nr cr:=hT 20 v20 rfl (by kernel_rfl)
   have t21:=Lib.hid (hT 21 v21 rfl (by kernel_rfl))
   have t22:=Lib.hid (hT 22 v22 rfl (by kernel_rfl))
   have t23:=Lib.hid (hT 23 v23 rfl (by kernel_rfl))
   clear hT
   have hoL1:=opIs hoL (p:=.store 70 (.tmp 2) (.tmp 45)) (by kernel_rfl)
   have hgL:=guardIs hoL (p:=none) (by kernel_rfl)
   have hdL:oL.dst=none:=by have:=(show ((regOf Tryz.f67 7)[24]?).map (·.dst)=some (none) by kernel_rfl); rw [hoL] at this; simpa using this
   rw [if_pos (wanted_free hgL)]
   rw [hdL] at hKL
   simp only [puts,Act.put,List.setIfInBounds_toArray,List.set_cons_succ,List.set_cons_zero] at hKL ⊢
   obtain⟨ra,rc,c,rfl,hra,hcl,hcb⟩:=t23.out
   have HR9:=Lib.hid (HRz.out.keep hCw9)
   have HB9:=Lib.hid (HBr.out.trans (Below.lower hCw9 HBr.out.size))
   have q0:=HR9.out.cell (j:=0) rfl
   have f0:=HR9.out.free 0
   have q1:=HR9.out.cell (j:=1) rfl
   have f1:=HR9.out.free 1
   have q2:=HR9.out.cell (j:=2) rfl
   have f2:=HR9.out.free 2
   have q3:=HR9.out.cell (j:=3) rfl
   have f3:=HR9.out.free 3
   unfold Oper.wp
   rw [show (execOp _ oL).run Tryz.prog w9 = .ok .skip ((((w9.setCell ⟨w.heap.size+1,0,none⟩ (.int .i64 3)).setCell ⟨w.heap.size+1,1,none⟩ (.int .i64 0)).setCell ⟨w.heap.size+1,2,none⟩ (.string ⟨#[]⟩)).setCell ⟨w.heap.size+1,3,none⟩ (.slice (some ⟨c,0,none⟩) 7 7)) by unfold execOp; simp only [hoL1]; simp [go_sem,q0,q1,q2,q3,f0,f1,f2,f3]]
   show KL (Act.put _ oL.dst undef) _
   rw [hdL]
   refine hKL undef _ ?_
   have hz9:=(((HR9.out.set 0 (.int .i64 3)).set 1 (.int .i64 0)).set 2 (.string ⟨#[]⟩)).set 3 (.slice (some ⟨c,0,none⟩) 7 7)
   have hg9:=grown_trans (grown_trans (grown_trans (grown_setCell w9 (w.heap.size+1) 0 (.int .i64 3)) (grown_setCell _ (w.heap.size+1) 1 (.int .i64 0))) (grown_setCell _ (w.heap.size+1) 2 (.string ⟨#[]⟩))) (grown_setCell _ (w.heap.size+1) 3 (.slice (some ⟨c,0,none⟩) 7 7))
   have HBZ:=Lib.hid (HB9.out.grown hg9 HB9.out.size (fun q e=>by have:=Option.some.inj e; omega))
   have hbl:∀ p,w0.heap.size≤p→p<w9.heap.size→_=w9.heap[p]?:=fun p h1 h2=>hg9.block p h2 (fun e=>by have:=Option.some.inj e; omega)
   generalize ((((w9.setCell ⟨w.heap.size+1,0,none⟩ (.int .i64 3)).setCell ⟨w.heap.size+1,1,none⟩ (.int .i64 0)).setCell ⟨w.heap.size+1,2,none⟩ (.string ⟨#[]⟩)).setCell ⟨w.heap.size+1,3,none⟩ (.slice (some ⟨c,0,none⟩) 7 7))=wz at *
   have hsz:w9.heap.size≤wz.heap.size:=hg9.size
   have hs9:=hCw9.size
   have hat:V.At wz (fun p=>w.heap.size≤p∧p<wz.heap.size) (hdV ⟨tm,vo,ba,bt,rs,sn,vs⟩) [.int .i64 3,.int .i64 0,.string ⟨#[]⟩,.slice (some ⟨c,0,none⟩) 7 7]:=by
    have h3:=V.At.move (w':=wz) (T:=fun p=>w.heap.size≤p∧p<wz.heap.size) (fun p hp=>⟨by have:=hp.1; omega,by have:=hp.2; omega⟩) (fun p hp=>hbl p (by have:=hp.1; omega) hp.2) _ _ hra
    have h1:=V.At.move (w':=wz) (T:=fun p=>w.heap.size≤p∧p<wz.heap.size) (fun p hp=>⟨by have:=hp.1; omega,by have:=hp.2; omega⟩) (fun p hp=>(hbl p (by have:=hp.1; omega) (by have:=hp.2; omega)).trans (hCw9.block p hp.2)) _ _ hM.out.at
    rw [HACV.out] at h1
    have hrow:=((((((RowOf.nil.snoc (numV_at wz (fun p=>w.heap.size≤p∧p<wz.heap.size) tm)).snoc (numV_at wz _ vo)).snoc (numV_at wz _ ba)).snoc (numV_at wz _ bt)).snoc (textV_at wz _ sn)).snoc h1).snoc h3
    exact listV_at ⟨by omega,by have:=lt_of_block hcb; omega⟩ hrow ((hbl c (by omega) (lt_of_block hcb)).trans (by rw [hcb,HACV.out]; rfl)) rfl
   have HAT:=Lib.hid hat
   go_wp2_with fail
   refine bodyPost_ret (v:=.agg #[.int .i64 3,.int .i64 0,.string ⟨#[]⟩,.slice (some ⟨c,0,none⟩) 7 7]) ?_ rfl ?_
   ·exact results_cell_row (p:=2) rfl _ _ (w.heap.size+1) 70 _ (0,0) _ rfl hz9 Tryz.underlying70 rfl (by kernel_rfl)
   ·exact⟨_,rfl,HAT.out,HBZ.out⟩
set_option maxRecDepth 100000 in
set_option maxHeartbeats 1000000 in
theorem wput_any (h:Hd) (ar:Option Addr) (nr cr:Nat) (av:Option Addr) (nv cv:Nat) (w:World) (H:HdAt w h ar nr cr av nv cv) (htab:Lib.TabIs Tryz.prog w "internal/strconv.uint64pow10" .u64 Lib.pow10Tab) (g:ByteArray × Int) (hg:Hid (g=putH h)) :
 Calls Tryz.prog 25 #[h.val ar nr cr av nv cv] w (fun e w'=>e = .returned (.tuple #[.string g.1,.int .i64 g.2])∧Below w.heap.size w w'):=by
 have HT:=Lib.hid (Lib.tabBelow_of_tabIs htab)
 have HSH:=Lib.hid (fun (W:World) (hb:Below w.heap.size w W)=>wshaped_any h ar nr cr av nv cv W (H.keep hb) (shapedH h) (Lib.hid rfl))
 have HVL:=Lib.hid (fun (hs:shapedH h=true) (W:World) (hb:Below w.heap.size w W)=>wvalue_any h ar nr cr av nv cv W (H.keep hb) (by have:=(shaped_in hs).1.2.2.1.2.2.2.2.2.1; rw [← H.rlen] at this; exact this) (by have:=(shaped_in hs).1.2.2.2.1; rw [← H.vlen] at this; exact this))
 have HPT:=Lib.hid (fun (hs:shapedH h=true) (W:World) (S:Nat→Prop) (cs:List Value) (hS:∀ b,S b→b<W.heap.size) (hat:V.At W S (hdV h) cs) (hb:Below w.heap.size w W)=>put_any S (hdV h) cs W hS hat (hdV_small hs).1 (hdV_inR hs) (hdV_small hs).2 (HT.out _ hb) (putGot (hdV h)) (Lib.hid rfl))
 have HG1:Hid (shapedH h=false→g=(⟨#[]⟩,1)):=Lib.hid (fun hs=>by rw [hg.out]; unfold putH; rw [hs]; rfl)
 have HG2:Hid (shapedH h=true→g=if (putGot (hdV h)).2≠0 then (⟨#[]⟩,1) else putGot (hdV h)):=Lib.hid (fun hs=>by rw [hg.out]; unfold putH; rw [if_pos hs])
 clear H htab hg
 obtain⟨P,hP⟩:∃ P,P=putGot (hdV h):=⟨_,rfl⟩
 rw [← hP] at HPT HG2
 clear hP
 obtain⟨sh,hsh⟩:∃ sh,sh=shapedH h:=⟨_,rfl⟩
 rw [← hsh] at HSH HVL HPT HG1 HG2
 obtain⟨tm,vo,ba,bt,rs,sn,vs⟩:=h
 unfold Hd.val at *
 dsimp only at *
 clear hsh
 have HB0:=Lib.hid ((Below.refl _ w).alloc (Nat.le_refl _) (.cells #[.int .i64 tm,.int .i64 vo,.int .i64 ba,.int .i64 bt,.slice ar nr cr,.string sn,.slice av nv cv] 42))
 have HK0:Hid (Blk (w.alloc (.cells #[.int .i64 tm,.int .i64 vo,.int .i64 ba,.int .i64 bt,.slice ar nr cr,.string sn,.slice av nv cv] 42)) w.heap.size 42 [.int .i64 tm,.int .i64 vo,.int .i64 ba,.int .i64 bt,.slice ar nr cr,.string sn,.slice av nv cv]):=Lib.hid (heap_alloc_new w _)
 have x0:=HK0.out.cell (j:=0) rfl
 have x1:=HK0.out.cell (j:=1) rfl
 have x2:=HK0.out.cell (j:=2) rfl
 have x3:=HK0.out.cell (j:=3) rfl
 have x4:=HK0.out.cell (j:=4) rfl
 have x5:=HK0.out.cell (j:=5) rfl
 have x6:=HK0.out.cell (j:=6) rfl
 go_enter Tryz.func25,Tryz.ntmps25
 go_wp2_with fail
 refine (HSH.out _ HB0.out).mono ?_
 rintro e w1 ⟨rfl,hb1⟩
 have HB1:=Lib.hid (below_then HB0.out hb1 HB0.out.size)
 have HK1:=Lib.hid (HK0.out.keep hb1)
 clear x0 x1 x2 x3 x4 x5 x6 HB0 HK0 hb1 HSH
 cases sh with
 | false =>
   obtain rfl:=HG1.out rfl
   go_wp2_with fail
   go_ret2
   exact⟨rfl,HB1.out⟩
 | true =>
   have HG:=Lib.hid (HG2.out rfl)
   have x0:=HK1.out.cell (j:=0) rfl
   have x1:=HK1.out.cell (j:=1) rfl
   have x2:=HK1.out.cell (j:=2) rfl
   have x3:=HK1.out.cell (j:=3) rfl
   have x4:=HK1.out.cell (j:=4) rfl
   have x5:=HK1.out.cell (j:=5) rfl
   have x6:=HK1.out.cell (j:=6) rfl
   clear HG1 HG2
   go_wp2_with fail
   refine (HVL.out (by trivial) _ HB1.out).mono ?_
   rintro e w2 ⟨a,rfl,hat,hb2⟩
   have HB2:=Lib.hid (below_then HB1.out hb2 HB1.out.size)
   have HPC:=Lib.hid (HPT.out (by trivial) w2 _ _ (fun b (hb:_∧_)=>hb.2) hat HB2.out)
   clear x0 x1 x2 x3 x4 x5 x6 hb2 hat HVL HPT HK1 HB1
   obtain⟨P1,P2⟩:=P
   dsimp only at *
   go_wp2_with fail
   refine HPC.out.mono ?_
   rintro e w3 ⟨rfl,hb3⟩
   have HB3:=Lib.hid (below_then HB2.out hb3 HB2.out.size)
   clear hb3 HPC HB2
   dsimp only
   by_cases hp:P2=0
   ·subst hp
    have hgg:=HG.out
    rw [if_neg (by simp)] at hgg
    subst hgg
    go_wp2_with fail
    go_ret2
    exact⟨rfl,HB3.out⟩
   ·have p1:(P2 != 0)=true:=by simpa using hp
    have hgg:=HG.out
    rw [if_pos hp] at hgg
    subst hgg
    clear HG hp
    go_wp2_with fail
    go_ret2
    exact⟨rfl,HB3.out⟩
set_option maxRecDepth 100000 in
set_option maxHeartbeats 1000000 in
theorem wright_any (h:Hd) (ar:Option Addr) (nr cr:Nat) (av:Option Addr) (nv cv:Nat) (w:World) (H:HdAt w h ar nr cr av nv cv) (htab:Lib.TabIs Tryz.prog w "internal/strconv.uint64pow10" .u64 Lib.pow10Tab) (v:Bool) (hv:Hid (v=rightH h)) :
 Calls Tryz.prog 23 #[h.val ar nr cr av nv cv] w (fun e w'=>e = .returned (.bool v)∧Below w.heap.size w w'):=by
 have HT:=Lib.hid (Lib.tabBelow_of_tabIs htab)
 obtain⟨g,hg⟩:∃ g,g=putH h:=⟨_,rfl⟩
 have HPT:=Lib.hid (fun (W:World) (hb:Below w.heap.size w W)=>wput_any h ar nr cr av nv cv W (H.keep hb) (HT.out _ hb) g (Lib.hid hg))
 have HV:Hid (v=(g.2==0)):=Lib.hid (by rw [hv.out,hg]; unfold rightH; by_cases h0:(putH h).2=0 <;> simp [h0])
 clear H htab hv hg
 obtain⟨tm,vo,ba,bt,rs,sn,vs⟩:=h
 unfold Hd.val at *
 dsimp only at *
 obtain⟨g1,g2⟩:=g
 dsimp only at *
 have HB0:=Lib.hid ((Below.refl _ w).alloc (Nat.le_refl _) (.cells #[.int .i64 tm,.int .i64 vo,.int .i64 ba,.int .i64 bt,.slice ar nr cr,.string sn,.slice av nv cv] 42))
 have HK0:Hid (Blk (w.alloc (.cells #[.int .i64 tm,.int .i64 vo,.int .i64 ba,.int .i64 bt,.slice ar nr cr,.string sn,.slice av nv cv] 42)) w.heap.size 42 [.int .i64 tm,.int .i64 vo,.int .i64 ba,.int .i64 bt,.slice ar nr cr,.string sn,.slice av nv cv]):=Lib.hid (heap_alloc_new w _)
 have x0:=HK0.out.cell (j:=0) rfl
 have x1:=HK0.out.cell (j:=1) rfl
 have x2:=HK0.out.cell (j:=2) rfl
 have x3:=HK0.out.cell (j:=3) rfl
 have x4:=HK0.out.cell (j:=4) rfl
 have x5:=HK0.out.cell (j:=5) rfl
 have x6:=HK0.out.cell (j:=6) rfl
 go_enter Tryz.func23,Tryz.ntmps23
 go_wp2_with fail
 refine (HPT.out _ HB0.out).mono ?_
 rintro e w1 ⟨rfl,hb1⟩
 have HB1:=Lib.hid (below_then HB0.out hb1 HB0.out.size)
 clear x0 x1 x2 x3 x4 x5 x6 hb1 HPT
 dsimp only
 obtain rfl:=HV.out
 clear HV
 go_wp2_with fail
 go_ret
 exact⟨rfl,HB1.out⟩
end Go.Proofs.YtlpgbmaoenncjaaGreatDoor

namespace Go.Proofs.YtlpgbmaoenncjaaGreatDoor
open Go.RowKit
set_option linter.unusedVariables false
end Go.Proofs.YtlpgbmaoenncjaaGreatDoor

namespace Go.Proofs.YtlpgbmaoenncjaaGreatDoor
open Go.RowKit
set_option linter.unusedVariables false
end Go.Proofs.YtlpgbmaoenncjaaGreatDoor
namespace Go.Proofs.YtlpgbmaoenncjaaGreatDoor
open Go.RowKit
set_option linter.unusedVariables false
end Go.Proofs.YtlpgbmaoenncjaaGreatDoor
namespace Go.Proofs.YtlpgbmaoenncjaaGreatDoor
open Go.RowKit
set_option linter.unusedVariables false
end Go.Proofs.YtlpgbmaoenncjaaGreatDoor
namespace Go.Proofs.YtlpgbmaoenncjaaGreatDoor
open Go.RowKit
set_option linter.unusedVariables false
end Go.Proofs.YtlpgbmaoenncjaaGreatDoor
namespace Go.Proofs.YtlpgbmaoenncjaaGreatDoor
open Go.RowKit
set_option linter.unusedVariables false
end Go.Proofs.YtlpgbmaoenncjaaGreatDoor

namespace Go.Proofs.YtlpgbmaoenncjaaGreatDoor
open Go.RowKit
set_option linter.unusedVariables false
end Go.Proofs.YtlpgbmaoenncjaaGreatDoor

namespace Go.Proofs.YtlpgbmaoenncjaaGreatDoor
open Go.RowKit
set_option linter.unusedVariables false
end Go.Proofs.YtlpgbmaoenncjaaGreatDoor

namespace Go.Proofs.YtlpgbmaoenncjaaGreatDoor
open Go.RowKit
set_option linter.unusedVariables false
end Go.Proofs.YtlpgbmaoenncjaaGreatDoor

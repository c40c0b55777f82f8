/-
  The walk of wal.held: the state that bodies tell. (Written by wip/mkwod.py.)
-/
import Derived.Test.YtlpgbmaoenncjaaGreatDoorWoB
import Derived.Test.YtlpgbmaoenncjaaGreatDoorWsRest
import Derived.Test.YtlpgbmaoenncjaaGreatDoorWsOne
import Derived.Test.YtlpgbmaoenncjaaGreatDoorShelf
namespace Go.Proofs.YtlpgbmaoenncjaaGreatDoor
open Go.RowKit
set_option linter.unusedVariables false
set_option maxRecDepth 100000
def HelP (w:World) (x:Option Hd) (e:Ending) (w':World):Prop :=
 ∃ (z:Hd) (ar:Option Addr) (nr cr:Nat) (av:Option Addr) (nv cv:Nat) (ok:Bool),e = .returned (.tuple #[z.val ar nr cr av nv cv,.bool ok])∧Below w.heap.size w w'∧ok=x.isSome∧∀ y,x=some y→z=y∧HdAt w' y ar nr cr av nv cv∧(∀ q,ar=some q→w.heap.size≤q.block)∧(∀ q,av=some q→w.heap.size≤q.block)
structure HeSt (w W:World):Prop where
 bel:Below w.heap.size w W
 rb:Blk W w.heap.size 42 [.int .i64 0,.int .i64 0,.int .i64 0,.int .i64 0,.slice none 0 0,.string ⟨#[]⟩,.slice none 0 0]
theorem HeSt.keep {w W W':World}(h:HeSt w W) (hb:Below W.heap.size W W'):HeSt w W':=⟨below_then h.bel hb h.bel.size,h.rb.keep hb⟩
theorem he_start (w:World):HeSt w (w.alloc (.cells #[.int .i64 0,.int .i64 0,.int .i64 0,.int .i64 0,.slice none 0 0,.string ⟨#[]⟩,.slice none 0 0] 42)):=⟨(Below.refl w.heap.size w).alloc (Nat.le_refl _) _,heap_alloc_new w _⟩
theorem strsP_in {w w':World}{l:List ByteArray}{e:Ending}(h:StrsP w l e w'):∃ a n c,e = .returned (.slice a n c)∧SlAt w' a n (strs l)∧Below w.heap.size w w':=by
 obtain⟨a,n,c,h1,h2,h3,-⟩:=h
 exact⟨a,n,c,h1,h2,h3⟩
theorem tail_strs {b off n c m:Nat}(hm:m+1≤c) (h1:1≤m):∀ w,(Instr.sliceAt 86 (.slice (some ⟨b,off,none⟩) n c) (some (.int .i64 1)) (some (.int .i64 ((m:Int)+1))) none).run Tryz.prog w = .ok (.slice (some ⟨b,off+1,none⟩) m (c - 1)) w:=by
 have u:=Tryz.underlying86
 intro w
 have h2:((m:Int)+1).toNat=m+1:=by omega
 have h4:c≠1:=by omega
 have h5:(0:Int)≤(m:Int)+1∧(m:Int)+1≤(c:Int):=by omega
 have h6:(1:Int)≤(m:Int)+1:=by omega
 simp [go_sem,h2,h4,h5,h6]
theorem rest_strs {b off n c k:Nat}(hk:k≤n) (hc:n≤c):∃ o,(∀ w,(Instr.sliceAt 86 (.slice (some ⟨b,off,none⟩) n c) (some (.int .i64 (k:Int))) none none).run Tryz.prog w = .ok (.slice (some ⟨b,o,none⟩) (n - k) (c - k)) w)∧(k<n→o=off+k):=by
 have u:=Tryz.underlying86
 by_cases hck:c=k
 ·exact⟨off,fun w=>by simp [go_sem,hk,hck],fun h=>by omega⟩
 ·exact⟨off+k,fun w=>by simp [go_sem,hk,hck],fun _=>rfl⟩
def hldT (s:ByteArray) (b off n c m:Nat) (eq:Bool) (w1:World):Nat→Value→World→Prop
 | 0,v,w=>v = .int .i64 0
 | 1,v,w=>v = .bool false
 | 2,v,w=>v = .bool false
 | 3,v,w=>v = .string s
 | 4,v,w=>∃ a n2 c2,v = .slice a n2 c2∧SlAt w a n2 (strs (piecesB s))
 | 5,v,w=>v = .slice (some ⟨b,off,none⟩) n c
 | 6,v,w=>v = .int .i64 (m:Int)
 | 7,v,w=>v = .int .i64 ((m:Int)+1)
 | 8,v,w=>v = .slice (some ⟨b,off+1,none⟩) m (c - 1)
 | 9,v,w=>v = .bool eq
 | 10,v,w=>v = .bool (!eq)
 | 11,v,w=>v = .bool (!eq)
 | _,_,_=>True
def hldD:Nat→List Nat
 | _=>[]
theorem hld_keep (s:ByteArray) (b off n c m:Nat) (eq:Bool) (w1:World):∀ (j:Nat) (u:Value) (w w':World),Below w.heap.size w w'→(hldT s b off n c m eq w1) j u w→(hldT s b off n c m eq w1) j u w'
 | 4,u,w,w',hb,h=>by obtain⟨a,n2,c2,rfl,h2⟩:=h; exact⟨a,n2,c2,rfl,h2.keep hb⟩
 | 0,u,w,w',hb,h=>h
 | 1,u,w,w',hb,h=>h
 | 2,u,w,w',hb,h=>h
 | 3,u,w,w',hb,h=>h
 | 5,u,w,w',hb,h=>h
 | 6,u,w,w',hb,h=>h
 | 7,u,w,w',hb,h=>h
 | 8,u,w,w',hb,h=>h
 | 9,u,w,w',hb,h=>h
 | 10,u,w,w',hb,h=>h
 | 11,u,w,w',hb,h=>h
 | _+12,u,w,w',hb,h=>trivial
set_option maxHeartbeats 4000000 in
theorem hld_steps (s:ByteArray) (b off n c m:Nat) (eq:Bool) (w1:World) (hm:m+1≤c) (hm2:1≤m) (hm3:m≤100) (hCut:∀ W,Below w1.heap.size w1 W→Calls Tryz.prog 118 #[.string s] W (StrsP W (piecesB s))) (hEq:∀ W a n2 c2,Below w1.heap.size w1 W→SlAt W a n2 (strs (piecesB s))→Calls Tryz.prog 117 #[.slice a n2 c2,.slice (some ⟨b,off+1,none⟩) m (c - 1)] W fun e w'=>e = .returned (.bool eq)∧Below W.heap.size W w') {a:Act}(hs:a.tmps.size=101) (b5:a.eval (.tmp 5) = .int .i64 0) (b9:a.eval (.tmp 9) = .string s) (b0:a.eval (.tmp 0) = .slice (some ⟨b,off,none⟩) n c) (b7:a.eval (.tmp 7) = .int .i64 (m:Int)):∀ i o,(regOf Tryz.f65 14)[i]? = some o→StepOk Tryz.prog (regOf Tryz.f65 14) a (fun w=>Below w1.heap.size w1 w) (hldT s b off n c m eq w1) hldD i o:=by
 have hz:∀ t,Nat.blt t 101=true→Nat.blt t a.tmps.size=true:=fun t h=>by rw [hs]; exact h
 have hsz:(regOf Tryz.f65 14).size=12:=by kernel_rfl
 refine of_index 12 hsz ?_
 intro i hii o ho
 match i,hii with
 | 0,_ =>
   have ho1:=opIs ho (p:=.move (.tmp 5)) (by kernel_rfl)
   have hg:=guardIs ho (p:=none) (by kernel_rfl)
   intro e A w hA hC hp K hk
   have x5:A.eval (.tmp 5) = .int .i64 0:=filled_base hA (by kernel_rfl) b5
   have hw:Region.wanted o (yielded (regOf Tryz.f65 14) A.tmps)=true:=wanted_free hg
   exact step_pure hk hC hw (run_move ho1 x5 w) rfl
 | 1,_ =>
   have ho1:=opIs ho (p:=.binOp .neq 27 (.tmp 68) (.const (.int .i64 0)) 27) (by kernel_rfl)
   have hg:=guardIs ho (p:=none) (by kernel_rfl)
   intro e A w hA hC hp K hk
   have x68:A.eval (.tmp 68) = .int .i64 0:=op_tmp hA hp 68 0 (by kernel_rfl) (by kernel_rfl) (by kernel_rfl) (hz _ rfl)
   have hw:Region.wanted o (yielded (regOf Tryz.f65 14) A.tmps)=true:=wanted_free hg
   refine step_pure (v:=.bool false) hk hC hw ?_ rfl
   unfold execOp
   simp only [ho1]
   have xc:∀ v,A.eval (.const v)=v:=fun _=>rfl
   generalize A.eval=ρ at x68 xc ⊢
   simp [go_sem,x68,xc]
 | 2,_ =>
   have ho1:=opIs ho (p:=.move (.tmp 69)) (by kernel_rfl)
   have hg:=guardIs ho (p:=none) (by kernel_rfl)
   intro e A w hA hC hp K hk
   have x69:A.eval (.tmp 69) = .bool false:=op_tmp hA hp 69 1 (by kernel_rfl) (by kernel_rfl) (by kernel_rfl) (hz _ rfl)
   have hw:Region.wanted o (yielded (regOf Tryz.f65 14) A.tmps)=true:=wanted_free hg
   exact step_pure hk hC hw (run_move ho1 x69 w) rfl
 | 3,_ =>
   have ho1:=opIs ho (p:=.move (.tmp 9)) (by kernel_rfl)
   have hg:=guardIs ho (p:=some (2,false)) (by kernel_rfl)
   intro e A w hA hC hp K hk
   have x9:A.eval (.tmp 9) = .string s:=filled_base hA (by kernel_rfl) b9
   have xg:A.eval (.tmp 70) = .bool false:=op_tmp hA hp 70 2 (by kernel_rfl) (by kernel_rfl) (by kernel_rfl) (hz _ rfl)
   have hw:Region.wanted o (yielded (regOf Tryz.f65 14) A.tmps)=true:=wanted_tmp hg (by kernel_rfl) xg rfl
   exact step_pure hk hC hw (run_move ho1 x9 w) rfl
 | 4,_ =>
   have ho1:=opIs ho (p:=.call { callee:=(.value (.func 118)),args:=#[(.tmp 71)],argTypes:=#[9] }) (by kernel_rfl)
   have hg:=guardIs ho (p:=some (2,false)) (by kernel_rfl)
   intro e A w hA hC hp K hk
   have x71:A.eval (.tmp 71) = .string s:=op_tmp hA hp 71 3 (by kernel_rfl) (by kernel_rfl) (by kernel_rfl) (hz _ rfl)
   have xg:A.eval (.tmp 70) = .bool false:=op_tmp hA hp 70 2 (by kernel_rfl) (by kernel_rfl) (by kernel_rfl) (hz _ rfl)
   have hw:Region.wanted o (yielded (regOf Tryz.f65 14) A.tmps)=true:=wanted_tmp hg (by kernel_rfl) xg rfl
   refine step_call (f:=118) (args:=#[.string s]) hk hw ?_ ?_
   ·unfold execOp
    simp only [ho1]
    have xf:∀ f,A.eval (.func f) = .func (.func f) #[] #[]:=fun _=>rfl
    generalize A.eval=ρ at x71 xf ⊢
    simp [go_sem,xf,x71]
   ·refine (hCut w hC).mono ?_
    rintro en' w' hp'
    obtain⟨a,n2,c2,rfl,hsl,hb'⟩:=strsP_in hp'
    exact⟨_,rfl,⟨a,n2,c2,rfl,hsl⟩,below_then hC hb' hC.size,fun j u _ _ _ _ h=>hld_keep s b off n c m eq w1 j u w _ hb' h⟩
 | 5,_ =>
   have ho1:=opIs ho (p:=.move (.tmp 0)) (by kernel_rfl)
   have hg:=guardIs ho (p:=some (2,false)) (by kernel_rfl)
   intro e A w hA hC hp K hk
   have x0:A.eval (.tmp 0) = .slice (some ⟨b,off,none⟩) n c:=filled_base hA (by kernel_rfl) b0
   have xg:A.eval (.tmp 70) = .bool false:=op_tmp hA hp 70 2 (by kernel_rfl) (by kernel_rfl) (by kernel_rfl) (hz _ rfl)
   have hw:Region.wanted o (yielded (regOf Tryz.f65 14) A.tmps)=true:=wanted_tmp hg (by kernel_rfl) xg rfl
   exact step_pure hk hC hw (run_move ho1 x0 w) rfl
 | 6,_ =>
   have ho1:=opIs ho (p:=.move (.tmp 7)) (by kernel_rfl)
   have hg:=guardIs ho (p:=some (2,false)) (by kernel_rfl)
   intro e A w hA hC hp K hk
   have x7:A.eval (.tmp 7) = .int .i64 (m:Int):=filled_base hA (by kernel_rfl) b7
   have xg:A.eval (.tmp 70) = .bool false:=op_tmp hA hp 70 2 (by kernel_rfl) (by kernel_rfl) (by kernel_rfl) (hz _ rfl)
   have hw:Region.wanted o (yielded (regOf Tryz.f65 14) A.tmps)=true:=wanted_tmp hg (by kernel_rfl) xg rfl
   exact step_pure hk hC hw (run_move ho1 x7 w) rfl
 | 7,_ =>
   have ho1:=opIs ho (p:=.binOp .add 3 (.tmp 74) (.const (.int .i64 1)) 3) (by kernel_rfl)
   have hg:=guardIs ho (p:=some (2,false)) (by kernel_rfl)
   intro e A w hA hC hp K hk
   have x74:A.eval (.tmp 74) = .int .i64 (m:Int):=op_tmp hA hp 74 6 (by kernel_rfl) (by kernel_rfl) (by kernel_rfl) (hz _ rfl)
   have xg:A.eval (.tmp 70) = .bool false:=op_tmp hA hp 70 2 (by kernel_rfl) (by kernel_rfl) (by kernel_rfl) (hz _ rfl)
   have hw:Region.wanted o (yielded (regOf Tryz.f65 14) A.tmps)=true:=wanted_tmp hg (by kernel_rfl) xg rfl
   refine step_pure (v:=.int .i64 ((m:Int)+1)) hk hC hw ?_ rfl
   unfold execOp
   simp only [ho1]
   have xc:∀ v,A.eval (.const v)=v:=fun _=>rfl
   generalize A.eval=ρ at x74 xc ⊢
   simp [go_sem,x74,xc,show IntKind.i64.wrap ((m:Int)+1)=(m:Int)+1 by rw [IntKind.wrap_i64]; omega]
 | 8,_ =>
   have ho1:=opIs ho (p:=.slice 86 (.tmp 73) (some (.const (.int .i64 1))) (some (.tmp 75)) none) (by kernel_rfl)
   have hg:=guardIs ho (p:=some (2,false)) (by kernel_rfl)
   intro e A w hA hC hp K hk
   have x73:A.eval (.tmp 73) = .slice (some ⟨b,off,none⟩) n c:=op_tmp hA hp 73 5 (by kernel_rfl) (by kernel_rfl) (by kernel_rfl) (hz _ rfl)
   have x75:A.eval (.tmp 75) = .int .i64 ((m:Int)+1):=op_tmp hA hp 75 7 (by kernel_rfl) (by kernel_rfl) (by kernel_rfl) (hz _ rfl)
   have xg:A.eval (.tmp 70) = .bool false:=op_tmp hA hp 70 2 (by kernel_rfl) (by kernel_rfl) (by kernel_rfl) (hz _ rfl)
   have hw:Region.wanted o (yielded (regOf Tryz.f65 14) A.tmps)=true:=wanted_tmp hg (by kernel_rfl) xg rfl
   refine step_pure (v:=.slice (some ⟨b,off+1,none⟩) m (c - 1)) hk hC hw ?_ rfl
   unfold execOp
   simp only [ho1]
   have xc:∀ v,A.eval (.const v)=v:=fun _=>rfl
   generalize A.eval=ρ at x73 x75 xc ⊢
   have h2:((m:Int)+1).toNat=m+1:=by omega
   have h4:c≠1:=by omega
   have h5:(0:Int)≤(m:Int)+1∧(m:Int)+1≤(c:Int):=by omega
   have h6:(1:Int)≤(m:Int)+1:=by omega
   simp [go_sem,x73,x75,xc,h2,h4,h5,h6]
 | 9,_ =>
   have ho1:=opIs ho (p:=.call { callee:=(.value (.func 117)),args:=#[(.tmp 72),(.tmp 76)],argTypes:=#[86,86] }) (by kernel_rfl)
   have hg:=guardIs ho (p:=some (2,false)) (by kernel_rfl)
   intro e A w hA hC hp K hk
   have x72:=op_tmp hA hp 72 4 (by kernel_rfl) (by kernel_rfl) (by kernel_rfl) (hz _ rfl)
   have x76:A.eval (.tmp 76) = .slice (some ⟨b,off+1,none⟩) m (c - 1):=op_tmp hA hp 76 8 (by kernel_rfl) (by kernel_rfl) (by kernel_rfl) (hz _ rfl)
   have xg:A.eval (.tmp 70) = .bool false:=op_tmp hA hp 70 2 (by kernel_rfl) (by kernel_rfl) (by kernel_rfl) (hz _ rfl)
   have hw:Region.wanted o (yielded (regOf Tryz.f65 14) A.tmps)=true:=wanted_tmp hg (by kernel_rfl) xg rfl
   obtain⟨a,n2,c2,x72,hsl⟩:=x72
   refine step_call (f:=117) (args:=#[.slice a n2 c2,.slice (some ⟨b,off+1,none⟩) m (c - 1)]) hk hw ?_ ?_
   ·unfold execOp
    simp only [ho1]
    have xf:∀ f,A.eval (.func f) = .func (.func f) #[] #[]:=fun _=>rfl
    generalize A.eval=ρ at x72 x76 xf ⊢
    simp [go_sem,xf,x72,x76]
   ·refine (hEq w a n2 c2 hC hsl).mono ?_
    rintro en' w' ⟨rfl,hb'⟩
    exact⟨_,rfl,rfl,below_then hC hb' hC.size,fun j u _ _ _ _ h=>hld_keep s b off n c m eq w1 j u w _ hb' h⟩
 | 10,_ =>
   have ho1:=opIs ho (p:=.unOp .not 4 (.tmp 77)) (by kernel_rfl)
   have hg:=guardIs ho (p:=some (2,false)) (by kernel_rfl)
   intro e A w hA hC hp K hk
   have x77:A.eval (.tmp 77) = .bool eq:=op_tmp hA hp 77 9 (by kernel_rfl) (by kernel_rfl) (by kernel_rfl) (hz _ rfl)
   have xg:A.eval (.tmp 70) = .bool false:=op_tmp hA hp 70 2 (by kernel_rfl) (by kernel_rfl) (by kernel_rfl) (hz _ rfl)
   have hw:Region.wanted o (yielded (regOf Tryz.f65 14) A.tmps)=true:=wanted_tmp hg (by kernel_rfl) xg rfl
   refine step_pure (v:=.bool (!eq)) hk hC hw ?_ rfl
   unfold execOp
   simp only [ho1]
   generalize A.eval=ρ at x77 ⊢
   simp [go_sem,x77]
 | 11,_ =>
   have ho1:=opIs ho (p:=.pick (.tmp 70) (.const (.bool true)) (.tmp 78)) (by kernel_rfl)
   have hg:=guardIs ho (p:=none) (by kernel_rfl)
   intro e A w hA hC hp K hk
   have x70:A.eval (.tmp 70) = .bool false:=op_tmp hA hp 70 2 (by kernel_rfl) (by kernel_rfl) (by kernel_rfl) (hz _ rfl)
   have x78:A.eval (.tmp 78) = .bool (!eq):=op_tmp hA hp 78 10 (by kernel_rfl) (by kernel_rfl) (by kernel_rfl) (hz _ rfl)
   have hw:Region.wanted o (yielded (regOf Tryz.f65 14) A.tmps)=true:=wanted_free hg
   refine step_pure hk hC hw (run_pick (v:=.bool (!eq)) ho1 x70 ?_ w) rfl
   first | rfl | exact x78 | exact x70
 | _+12,h=>exact absurd h (by omega)
theorem pieces_len:∀ (f:Nat) (s:ByteArray),s.size≤f→(piecesB s).length≤s.size+1
 | 0,s,h=>by rw [pieces_short (by omega),List.length_singleton]; omega
 | f+1,s,h=>by
   by_cases h1:60000<s.size
   ·have hz:=rest_size s
    have:=pieces_len f (s.extract 60000 s.size) (by omega)
    rw [pieces_long h1,List.length_cons]
    omega
   ·rw [pieces_short (Nat.le_of_not_lt h1),List.length_singleton]; omega
theorem behindB_voters {h x:Hd}{b:ByteArray}(hb:behindB h b=some x):x.voters=h.voters:=by
 unfold behindB at hb
 split at hb
 ·cases hb; rfl
 ·cases hb
theorem joinB_step {l:List ByteArray}{j:Nat}(h:j<l.length):joinB (l.take (j+1))=joinB (l.take j)++l[j]:=by
 unfold joinB
 rw [List.take_add_one,List.getElem?_eq_getElem h,List.foldl_append]
 rfl
theorem joinB_grow:∀ (l:List ByteArray) (x:ByteArray),x.size≤(l.foldl (fun o p=>o++p) x).size
 | [],x=>Nat.le_refl _
 | y :: l,x=>by
   rw [List.foldl_cons]
   have:=joinB_grow l (x++y)
   rw [ByteArray.size_append] at this
   omega
theorem joinB_take (l:List ByteArray) (j:Nat):(joinB (l.take j)).size≤(joinB l).size:=by
 have h:=joinB_grow (l.drop j) (joinB (l.take j))
 unfold joinB at h ⊢
 rw [← List.foldl_append,List.take_append_drop] at h
 exact h
set_option maxHeartbeats 4000000 in
theorem wheld_any (a:Option Addr) (n c:Nat) (bs:List ByteArray) (w:World) (h:SlAt w a n (strs bs)) (hc:n≤c) (hn9:n≤1000000000) (hsz:(joinB bs.tail).size≤4000000) (hbz:∀ y∈bs,y.size≤9223372036854775807) (htab:Lib.TabIs Tryz.prog w "internal/strconv.uint64pow10" .u64 Lib.pow10Tab) (x:Option Hd) (hx:Hid (x=heldS bs)) :
 Calls Tryz.prog 65 #[.slice a n c] w (HelP w x):=by
 have HT:=Lib.hid (Lib.tabBelow_of_tabIs htab)
 have HST:=Lib.hid (he_start w)
 cases bs with
 | nil =>
   have hn0:n=0:=h.1
   subst hn0
   have HNO:Hid (x=none):=Lib.hid (hx.out.trans rfl)
   clear hx h hc hsz hbz htab
   go_enter Tryz.func65,Tryz.ntmps65
   go_upto_region 1 with fail
   generalize w.alloc (.cells #[.int .i64 0,.int .i64 0,.int .i64 0,.int .i64 0,.slice none 0 0,.string ⟨#[]⟩,.slice none 0 0] 42)=w0 at *
   have p0:=HST.out.rb.cell (j:=0) rfl
   have f0:=HST.out.rb.free 0
   have p1:=HST.out.rb.cell (j:=1) rfl
   have f1:=HST.out.rb.free 1
   have p2:=HST.out.rb.cell (j:=2) rfl
   have f2:=HST.out.rb.free 2
   have p3:=HST.out.rb.cell (j:=3) rfl
   have f3:=HST.out.rb.free 3
   have p4:=HST.out.rb.cell (j:=4) rfl
   have f4:=HST.out.rb.free 4
   have p5:=HST.out.rb.cell (j:=5) rfl
   have f5:=HST.out.rb.free 5
   have p6:=HST.out.rb.cell (j:=6) rfl
   have f6:=HST.out.rb.free 6
   go_wp2_with fail
   (try simp only [Exit.inBlock,Exit.then])
   have hz9:=blk_seven HST.out.rb (.int .i64 0) (.int .i64 0) (.int .i64 0) (.int .i64 0) (.slice none 0 0) (.string ⟨#[]⟩) (.slice none 0 0)
   have hg9:=grown_seven w0 w.heap.size (.int .i64 0) (.int .i64 0) (.int .i64 0) (.int .i64 0) (.slice none 0 0) (.string ⟨#[]⟩) (.slice none 0 0)
   have HB9:=Lib.hid (HST.out.bel.grown hg9 HST.out.bel.size (fun q e=>by have:=Option.some.inj e; omega))
   refine bodyPost_ret (v:=.tuple #[.agg #[.int .i64 0,.int .i64 0,.int .i64 0,.int .i64 0,.slice none 0 0,.string ⟨#[]⟩,.slice none 0 0],.bool false]) ?_ rfl ?_
   ·exact results_row_tmp (p:=2) (u:=3) rfl _ _ w.heap.size 42 _ (0,0) _ rfl hz9 Tryz.underlying42 rfl (by kernel_rfl)
   ·exact⟨Hd.zero,none,0,0,none,0,0,false,rfl,HB9.out,by rw [HNO.out]; rfl,fun z hz=>by rw [HNO.out] at hz; cases hz⟩
 | cons b0 r =>
   have hn:n=r.length+1:=by have:=h.1; rw [strs_length] at this; exact this
   obtain⟨-,b,off,rfl,hel⟩:=h.str (by omega)
   have HEL:=Lib.hid hel
   have HN:=Lib.hid hn
   have HC:=Lib.hid hc
   have HSZ:=Lib.hid hsz
   have HBZ:=Lib.hid hbz
   have HN9:=Lib.hid hn9
   obtain⟨v,hv⟩:∃ v,v=(getL b0).v:=⟨_,rfl⟩
   obtain⟨bd,hbd⟩:∃ bd,bd=(getL b0).bad:=⟨_,rfl⟩
   obtain⟨at_,hat_⟩:∃ k,k=(getL b0).at_:=⟨_,rfl⟩
   have HGET:Hid (∀ W,Calls Tryz.prog 42 #[.string b0] W (GetPost W ⟨v,bd,at_⟩)):=Lib.hid (fun W=>by
    rw [hv,hbd,hat_]
    exact get_any b0 W (hbz b0 (by simp)))
   have HX:Hid (x=if bd=0∧v.k=1∧(1≤v.n∧v.n≤9)∧v.n≤(r.length:Int) then (if (getH (joinB (r.take v.n.toNat))).2=0∧piecesB (joinB (r.take v.n.toNat))=r.take v.n.toNat then foldH (getH (joinB (r.take v.n.toNat))).1 (r.drop v.n.toNat) else none) else none):=Lib.hid (by rw [hx.out,hv,hbd]; rfl)
   have hnI:¬ ((n:Int)=0):=by omega
   have hnp:0<n:=by omega
   clear hx hv hbd hat_ h hel hn hc hsz hbz htab hn9
   go_enter Tryz.func65,Tryz.ntmps65
   go_upto_region 1 with fail
   have HK0:Hid (Below w.heap.size w (w.alloc (.cells #[.int .i64 0,.int .i64 0,.int .i64 0,.int .i64 0,.slice none 0 0,.string ⟨#[]⟩,.slice none 0 0] 42))):=Lib.hid HST.out.bel
   generalize w.alloc (.cells #[.int .i64 0,.int .i64 0,.int .i64 0,.int .i64 0,.slice none 0 0,.string ⟨#[]⟩,.slice none 0 0] 42)=w0 at *
   have e0:=cell_keep HK0.out (HEL.out 0 (by simp))
   rw [Nat.add_zero,List.getElem_cons_zero] at e0
   go_wp2_with fail
   refine (HGET.out _).mono ?_
   rintro e w1 ⟨cs,rfl,hat,hb1⟩
   dsimp only
   have HST1:=Lib.hid (HST.out.keep hb1)
   obtain⟨vk,vn,vt,vl⟩:=v
   simp only [V.At] at hat
   obtain⟨va,vc,rfl,hvc,hv0,hall⟩:=hat
   have hb2:Below w1.heap.size w1 (w1.alloc (.cells #[.int .i64 vk,.int .i64 vn,.string vt,.slice va vl.length vc] 70)):=(Below.refl w1.heap.size w1).alloc (Nat.le_refl _) _
   have HST2:=Lib.hid (HST1.out.keep hb2)
   have HV2:Hid (Four (w1.alloc (.cells #[.int .i64 vk,.int .i64 vn,.string vt,.slice va vl.length vc] 70)) w1.heap.size 70 (.int .i64 vk) (.int .i64 vn) (.string vt) (.slice va vl.length vc)):=Lib.hid (Four.new w1 70 _ _ _ _)
   clear hall hvc hv0 hb1 hb2 HGET HST HST1 e0 HK0
   go_upto_region 4 with fail
   generalize (w1.alloc (.cells #[.int .i64 vk,.int .i64 vn,.string vt,.slice va vl.length vc] 70))=w2 at *
   have v0:=HV2.out.c0
   have v1:=HV2.out.c1
   have v2:=HV2.out.c2
   have v3:=HV2.out.c3
   obtain⟨kk,hkk⟩:∃ k,k=decide (vk=1):=⟨_,rfl⟩
   obtain⟨kn,hkn⟩:∃ k,k=cl vn:=⟨_,rfl⟩
   have hcall:=Lib.hid (wwhole_any vk vn vt va vl.length vc w2 kn (Lib.hid hkn) kk (Lib.hid hkk))
   have HKK:=Lib.hid (And.intro hkk hkn)
   clear hkk hkn
   go_wp2_with fail
   refine hcall.out.mono ?_
   rintro e w3 ⟨rfl,hb3⟩
   dsimp only
   have HST3:=Lib.hid (HST2.out.keep hb3)
   clear v0 v1 v2 v3 hcall hb3 HV2 HST2
   by_cases hb0:bd=0
   ·subst hb0
    cases kk with
    | false =>
      have HNO:Hid (x=none):=Lib.hid (by
       rw [HX.out,if_neg]
       rintro⟨-,h1,-⟩
       have h2:=HKK.out.1
       rw [decide_eq_true (show vk=1 from h1)] at h2
       cases h2)
      clear HX
      have p0:=HST3.out.rb.cell (j:=0) rfl
      have f0:=HST3.out.rb.free 0
      have p1:=HST3.out.rb.cell (j:=1) rfl
      have f1:=HST3.out.rb.free 1
      have p2:=HST3.out.rb.cell (j:=2) rfl
      have f2:=HST3.out.rb.free 2
      have p3:=HST3.out.rb.cell (j:=3) rfl
      have f3:=HST3.out.rb.free 3
      have p4:=HST3.out.rb.cell (j:=4) rfl
      have f4:=HST3.out.rb.free 4
      have p5:=HST3.out.rb.cell (j:=5) rfl
      have f5:=HST3.out.rb.free 5
      have p6:=HST3.out.rb.cell (j:=6) rfl
      have f6:=HST3.out.rb.free 6
      go_wp2_with fail
      (try simp only [Exit.inBlock,Exit.then])
      have hz9:=blk_seven HST3.out.rb (.int .i64 0) (.int .i64 0) (.int .i64 0) (.int .i64 0) (.slice none 0 0) (.string ⟨#[]⟩) (.slice none 0 0)
      have hg9:=grown_seven w3 w.heap.size (.int .i64 0) (.int .i64 0) (.int .i64 0) (.int .i64 0) (.slice none 0 0) (.string ⟨#[]⟩) (.slice none 0 0)
      have HB9:=Lib.hid (HST3.out.bel.grown hg9 HST3.out.bel.size (fun q e=>by have:=Option.some.inj e; omega))
      refine bodyPost_ret (v:=.tuple #[.agg #[.int .i64 0,.int .i64 0,.int .i64 0,.int .i64 0,.slice none 0 0,.string ⟨#[]⟩,.slice none 0 0],.bool false]) ?_ rfl ?_
      ·exact results_row_tmp (p:=2) (u:=3) rfl _ _ w.heap.size 42 _ (0,0) _ rfl hz9 Tryz.underlying42 rfl (by kernel_rfl)
      ·exact⟨Hd.zero,none,0,0,none,0,0,false,rfl,HB9.out,by rw [HNO.out]; rfl,fun z hz=>by rw [HNO.out] at hz; cases hz⟩
    | true =>
      have HVK:Hid (vk=1):=Lib.hid (of_decide_eq_true HKK.out.1.symm)
      by_cases hk9:1≤kn∧kn≤9
      ·have HCW:Hid (∀ W,Calls Tryz.prog 116 #[.int .i64 kn,.int .i64 1,.int .i64 9] W fun e w'=>e = .returned (.bool true)∧W=w'):=Lib.hid (fun W=>by
        have h:=ww_any kn 1 9 W
        rw [decide_eq_true hk9.1,decide_eq_true hk9.2] at h
        exact h)
       obtain⟨m,rfl⟩:=Int.eq_ofNat_of_zero_le (show 0≤kn by omega)
       have HVN:Hid (vn=(m:Int)):=Lib.hid (by have h1:=HKK.out.2; have h2:=cl_in (n:=vn) (by omega) (by omega); omega)
       by_cases hmn:m<n
       ·have hmnI:¬ ((n:Int)≤(m:Int)):=by omega
        have hm1:1≤m:=by omega
        have hm9:m≤9:=by omega
        have HMM:Hid (m+1≤c∧1≤m∧m≤100):=Lib.hid ⟨by have:=HC.out; omega,hm1,by omega⟩
        have HX2:Hid (x=if (getH (joinB (r.take m))).2=0∧piecesB (joinB (r.take m))=r.take m then foldH (getH (joinB (r.take m))).1 (r.drop m) else none):=Lib.hid (by
         rw [HX.out,if_pos]
         ·rw [HVN.out]; rfl
         ·refine⟨by trivial,HVK.out,?_,?_⟩
          ·show 1≤vn∧vn≤9
           have:=HVN.out; omega
          ·show vn≤_
           have:=HVN.out; have:=HN.out; omega)
        clear HX HKK hk9
        have hsl:=tail_strs (b:=b) (off:=off) (n:=n) (c:=c) (m:=m) HMM.out.1 HMM.out.2.1
        go_wp2_with (go_at_call 116; refine (HCW.out _).mono ?_; rintro e w' ⟨rfl,rfl⟩)
        have HSL:=Lib.hid hsl
        clear hsl
        go_loopg [9,55] m (fun gk vs vi wr=>∃ j:Nat,j≤m∧gk=m - j∧vs = .string (joinB (r.take j))∧vi = .int .i64 (j:Int)∧Hid (HeSt w wr))
        case atStart=>exact⟨0,Nat.zero_le _,rfl,rfl,rfl,HST3⟩
        case round =>
         obtain⟨j,hj,rfl,rfl,rfl,HSr⟩:=hrel
         by_cases hjm:j<m
         ·have hji:(j:Int)<(m:Int):=by omega
          have hjr:j<r.length:=by have:=HN.out; omega
          have ej:=cell_keep HSr.out.bel (HEL.out (j+1) (by simp; omega))
          rw [List.getElem_cons_succ,show off+(j+1)=off+1+j by omega] at ej
          have HJ:=Lib.hid (joinB_step hjr)
          have hlim:(joinB (r.take j)).size+(r[j]).size≤4000000:=by
           have h1:=joinB_take r (j+1)
           rw [HJ.out,ByteArray.size_append] at h1
           have h2:=HSZ.out
           rw [List.tail_cons] at h2
           omega
          clear HX2
          generalize r[j]=tt at *
          obtain⟨S,hS⟩:∃ S,S=joinB (r.take j):=⟨_,rfl⟩
          rw [← hS] at hlim HJ ⊢
          clear hS
          go_wp2_with fail
          go_roundg (m - (j+1))
          case rel=>exact⟨j+1,by omega,rfl,by rw [HJ.out],by go_num,HSr⟩
          case measure=>omega
         ·obtain rfl:m=j:=by omega
          clear hj hjm HST3
          generalize wr=w4 at *
          have hs4:(joinB (r.take m)).size≤4000000:=by
           have h1:=joinB_take r m
           have h2:=HSZ.out
           rw [List.tail_cons] at h2
           omega
          obtain⟨s,hs⟩:∃ s,s=joinB (r.take m):=⟨_,rfl⟩
          rw [← hs] at hs4 HX2 ⊢
          obtain⟨g,hg⟩:∃ g,g=getH s:=⟨_,rfl⟩
          have hgr:g.2=0→rightH g.1=true:=fun h0=>by rw [hg] at h0 ⊢; exact getH_right h0
          have hcall:=Lib.hid (wget_any s w4 (by omega) (HT.out _ HSr.out.bel))
          rw [← hg] at hcall HX2
          clear hs hg
          obtain⟨z,bad⟩:=g
          dsimp only at hgr HX2
          have HGR:=Lib.hid hgr
          have HS4:=Lib.hid hs4
          clear hgr hs4
          go_wp2_with fail
          refine hcall.out.mono ?_
          rintro e w5 ⟨ar,nr,cr,av,nv,cv,rfl,hhd,hb5,hfa,hfv⟩
          have HW4:w.heap.size<w4.heap.size:=lt_of_block HSr.out.rb
          have HFA:Hid ((∀ q,ar=some q→w.heap.size<q.block)∧(∀ q,av=some q→w.heap.size<q.block)):=Lib.hid ⟨fun q e=>by have:=hfa q e; omega,fun q e=>by have:=hfv q e; omega⟩
          clear hfa hfv
          unfold Hd.val
          dsimp only
          have HST5:=Lib.hid (HSr.out.keep hb5)
          have hb6:Below w5.heap.size w5 (w5.alloc (.cells #[.int .i64 z.term,.int .i64 z.vote,.int .i64 z.base,.int .i64 z.bt,.slice ar nr cr,.string z.snap,.slice av nv cv] 42)):=(Below.refl _ w5).alloc (Nat.le_refl _) _
          have HST6:=Lib.hid (HST5.out.keep hb6)
          have HHD6:=Lib.hid (hhd.keep hb6)
          have HB6:Hid (Blk (w5.alloc (.cells #[.int .i64 z.term,.int .i64 z.vote,.int .i64 z.base,.int .i64 z.bt,.slice ar nr cr,.string z.snap,.slice av nv cv] 42)) w5.heap.size 42 [.int .i64 z.term,.int .i64 z.vote,.int .i64 z.base,.int .i64 z.bt,.slice ar nr cr,.string z.snap,.slice av nv cv]):=Lib.hid (heap_alloc_new w5 _)
          have HVO:=Lib.hid hhd.voters
          have HB56:=Lib.hid hb6
          have HPW:Hid (w.heap.size<w5.heap.size):=Lib.hid (lt_of_block HST5.out.rb)
          clear hhd hb5 hb6 hcall HSr HST5
          go_upto_region 14 with fail
          generalize (w5.alloc (.cells #[.int .i64 z.term,.int .i64 z.vote,.int .i64 z.base,.int .i64 z.bt,.slice ar nr cr,.string z.snap,.slice av nv cv] 42))=w6 at *
          by_cases hbad:bad=0
          ·subst hbad
           obtain⟨eq,heq⟩:∃ eq,eq=decide (piecesB s=r.take m):=⟨_,rfl⟩
           have HQ:=Lib.hid heq
           have HCUT:Hid (∀ W,Below w6.heap.size w6 W→Calls Tryz.prog 118 #[.string s] W (StrsP W (piecesB s))):=Lib.hid (fun W _=>wcut_any s W HS4.out)
           have HEQ:Hid (∀ W a n2 c2,Below w6.heap.size w6 W→SlAt W a n2 (strs (piecesB s))→Calls Tryz.prog 117 #[.slice a n2 c2,.slice (some ⟨b,off+1,none⟩) m (c - 1)] W fun e w'=>e = .returned (.bool eq)∧Below W.heap.size W w'):=Lib.hid (fun W a n2 c2 hW ha=>by
            have hps:=pieces_pos s
            have hn2:n2=(piecesB s).length:=by have:=ha.1; rw [strs_length] at this; exact this
            have hn2p:0<n2:=by omega
            obtain⟨-,b1,o1,rfl,hc1⟩:=ha.str hn2p
            have hbW:=below_then HST6.out.bel hW HST6.out.bel.size
            have hrl:m≤r.length:=by have:=HN.out; omega
            have hl2:(r.take m).length=m:=by rw [List.length_take]; omega
            have hl3:(piecesB s).length≤4000001:=by have:=HS4.out; have:=pieces_len _ s (Nat.le_refl _); omega
            have h9:=Tryz.slices_Equal_string b1 o1 n2 c2 b (off+1) m (c - 1) (piecesB s) (r.take m) W (by omega) (by omega) (by omega) (by omega) (fun j hj=>by rw [hc1 j hj,List.getD_eq_getElem?_getD,List.getElem?_eq_getElem hj]; rfl) (fun j hj=>by
             have h7:=cell_keep hbW (HEL.out (j+1) (by simp; omega))
             rw [List.getElem_cons_succ,show off+(j+1)=off+1+j by omega] at h7
             rw [h7,List.getD_eq_getElem?_getD,List.getElem?_eq_getElem hj,List.getElem_take]
             rfl)
            refine h9.mono ?_
            rintro e w' ⟨rfl,q,rfl⟩
            refine⟨?_,below_drewN (Below.refl _ W) q⟩
            rw [heq,List.take_of_length_le (by omega),List.take_of_length_le (by omega)])
           clear heq
           refine wp_region_set (regOf Tryz.f65 14) [some 68,some 69,some 70,some 71,some 72,some 73,some 74,some 75,some 76,some 77,some 78,some 79] (hldT s b off n c m eq w6) (fun w'=>Below w6.heap.size w6 w') hldD (by kernel_rfl) (by kernel_rfl) (by kernel_rfl) (by kernel_rfl) (by kernel_rfl) ((Below.refl _ _).drew)
            (hld_steps s b off n c m eq w6 HMM.out.1 HMM.out.2.1 HMM.out.2.2 HCUT.out HEQ.out (by kernel_rfl) (by kernel_rfl) (by kernel_rfl) (by kernel_rfl) (by kernel_rfl)) ?_
           intro vs w7 hn hCw7 hT
           replace hn:vs.length=12:=hn
           obtain⟨v0,vs1,rfl,hn1⟩:=len_cons hn
           obtain⟨v1,vs2,rfl,hn2⟩:=len_cons hn1
           obtain⟨v2,vs3,rfl,hn3⟩:=len_cons hn2
           obtain⟨v3,vs4,rfl,hn4⟩:=len_cons hn3
           obtain⟨v4,vs5,rfl,hn5⟩:=len_cons hn4
           obtain⟨v5,vs6,rfl,hn6⟩:=len_cons hn5
           obtain⟨v6,vs7,rfl,hn7⟩:=len_cons hn6
           obtain⟨v7,vs8,rfl,hn8⟩:=len_cons hn7
           obtain⟨v8,vs9,rfl,hn9⟩:=len_cons hn8
           obtain⟨v9,vs10,rfl,hn10⟩:=len_cons hn9
           obtain⟨v10,vs11,rfl,hn11⟩:=len_cons hn10
           obtain⟨v11,vs12,rfl,hn12⟩:=len_cons hn11
           obtain rfl:=List.eq_nil_of_length_eq_zero hn12
           clear hn hn1 hn2 hn3 hn4 hn5 hn6 hn7 hn8 hn9 hn10 hn11 hn12
           obtain rfl:v0 = .int .i64 0:=hT 0 v0 rfl (by kernel_rfl)
           obtain rfl:v1 = .bool false:=hT 1 v1 rfl (by kernel_rfl)
           obtain rfl:v2 = .bool false:=hT 2 v2 rfl (by kernel_rfl)
           obtain rfl:v3 = .string s:=hT 3 v3 rfl (by kernel_rfl)
           have t4:=Lib.hid (hT 4 v4 rfl (by kernel_rfl))
           obtain rfl:v5 = .slice (some ⟨b,off,none⟩) n c:=hT 5 v5 rfl (by kernel_rfl)
           obtain rfl:v6 = .int .i64 (m:Int):=hT 6 v6 rfl (by kernel_rfl)
           obtain rfl:v7 = .int .i64 ((m:Int)+1):=hT 7 v7 rfl (by kernel_rfl)
           obtain rfl:v8 = .slice (some ⟨b,off+1,none⟩) m (c - 1):=hT 8 v8 rfl (by kernel_rfl)
           obtain rfl:v9 = .bool eq:=hT 9 v9 rfl (by kernel_rfl)
           obtain rfl:v10 = .bool (!eq):=hT 10 v10 rfl (by kernel_rfl)
           obtain rfl:v11 = .bool (!eq):=hT 11 v11 rfl (by kernel_rfl)
           clear hT
           simp only [puts,Act.put,List.setIfInBounds_toArray,List.set_cons_succ,List.set_cons_zero]
           have HST7:=Lib.hid (HST6.out.keep hCw7)
           have HB57:=Lib.hid (below_then HB56.out hCw7 HB56.out.size)
           have HHD7:=Lib.hid (HHD6.out.keep hCw7)
           have HB7:=Lib.hid (HB6.out.keep hCw7)
           clear hCw7 HST6 HHD6 HB6 HCUT HEQ
           cases eq with
           | false =>
             have HNO:Hid (x=none):=Lib.hid (by
              rw [HX2.out,if_neg]
              rintro⟨-,h1⟩
              have h2:=HQ.out
              rw [decide_eq_true h1] at h2
              cases h2)
             clear HX2
             have p0:=HST7.out.rb.cell (j:=0) rfl
             have f0:=HST7.out.rb.free 0
             have p1:=HST7.out.rb.cell (j:=1) rfl
             have f1:=HST7.out.rb.free 1
             have p2:=HST7.out.rb.cell (j:=2) rfl
             have f2:=HST7.out.rb.free 2
             have p3:=HST7.out.rb.cell (j:=3) rfl
             have f3:=HST7.out.rb.free 3
             have p4:=HST7.out.rb.cell (j:=4) rfl
             have f4:=HST7.out.rb.free 4
             have p5:=HST7.out.rb.cell (j:=5) rfl
             have f5:=HST7.out.rb.free 5
             have p6:=HST7.out.rb.cell (j:=6) rfl
             have f6:=HST7.out.rb.free 6
             go_wp2_with fail
             (try simp only [Exit.inBlock,Exit.then])
             have hz9:=blk_seven HST7.out.rb (.int .i64 0) (.int .i64 0) (.int .i64 0) (.int .i64 0) (.slice none 0 0) (.string ⟨#[]⟩) (.slice none 0 0)
             have hg9:=grown_seven w7 w.heap.size (.int .i64 0) (.int .i64 0) (.int .i64 0) (.int .i64 0) (.slice none 0 0) (.string ⟨#[]⟩) (.slice none 0 0)
             have HB9:=Lib.hid (HST7.out.bel.grown hg9 HST7.out.bel.size (fun q e=>by have:=Option.some.inj e; omega))
             refine bodyPost_ret (v:=.tuple #[.agg #[.int .i64 0,.int .i64 0,.int .i64 0,.int .i64 0,.slice none 0 0,.string ⟨#[]⟩,.slice none 0 0],.bool false]) ?_ rfl ?_
             ·exact results_row_tmp (p:=2) (u:=3) rfl _ _ w.heap.size 42 _ (0,0) _ rfl hz9 Tryz.underlying42 rfl (by kernel_rfl)
             ·exact⟨Hd.zero,none,0,0,none,0,0,false,rfl,HB9.out,by rw [HNO.out]; rfl,fun z hz=>by rw [HNO.out] at hz; cases hz⟩
           | true =>
             have HX3:Hid (x=foldH z (r.drop m)):=Lib.hid (by rw [HX2.out,if_pos ⟨by trivial,of_decide_eq_true HQ.out.symm⟩])
             have HRZ:Hid (rightH z=true):=Lib.hid (HGR.out (by trivial))
             clear HX2 HQ HGR
             have hnm:m+1≤n:=by omega
             obtain⟨o2,hsl2,ho2⟩:=rest_strs (b:=b) (off:=off) (n:=n) (c:=c) (k:=m+1) hnm HC.out
             push_cast at hsl2
             have HSL2:=Lib.hid hsl2
             have HO2:=Lib.hid ho2
             have HRD:Hid ((r.drop m).length=n - (m+1)):=Lib.hid (by rw [List.length_drop]; have:=HN.out; omega)
             generalize hLn:n - (m+1)=L at *
             have HLN:=Lib.hid hLn
             obtain⟨p,hp⟩:∃ p,p=w5.heap.size:=⟨_,rfl⟩
             rw [← hp] at HB7 HPW HB57 ⊢
             have HPE:Hid (p=w5.heap.size):=Lib.hid hp
             have HPS:Hid (p≤w5.heap.size):=Lib.hid (Nat.le_of_eq hp)
             clear hp ho2 hLn
             have hwrap:IntKind.i64.wrap ((m:Int)+1)=(m:Int)+1:=by rw [IntKind.wrap_i64]; omega
             go_wp2_with fail
             go_loopg [86] L (fun gk vi wr=>∃ (j:Nat) (y:Hd) (br:Option Addr) (mr dr:Nat),j≤L∧gk=L - j∧vi = .int .i64 (j:Int)∧Hid (x=foldH y ((r.drop m).drop j))∧Hid (rightH y=true)∧Hid (HdAt wr y br mr dr av nv cv)∧Hid (y.voters=z.voters∧Below p w5 wr∧∀ q,br=some q→w.heap.size<q.block)∧Hid (Blk wr p 42 [.int .i64 y.term,.int .i64 y.vote,.int .i64 y.base,.int .i64 y.bt,.slice br mr dr,.string y.snap,.slice av nv cv])∧Hid (HeSt w wr))
             case atStart=>exact⟨0,z,ar,nr,cr,Nat.zero_le _,rfl,rfl,Lib.hid (by rw [HX3.out,List.drop_zero]),HRZ,HHD7,Lib.hid ⟨rfl,HB57.out,HFA.out.1⟩,HB7,HST7⟩
             case round =>
              obtain⟨j,y,br,mr,dr,hj,rfl,rfl,HXR,HRY,HHr,HVr,HBr,HSr⟩:=hrel
              clear HX3 HRZ HHD7 HB7 HST7
              have hLb:L≤1000000000:=by have:=HLN.out; have:=HN9.out; omega
              by_cases hjL:j<L
              ·have hji:(j:Int)<(L:Int):=by omega
               have hjd:j<(r.drop m).length:=by have:=HRD.out; omega
               have hdr:(r.drop m).drop j=(r.drop m)[j] :: (r.drop m).drop (j+1):=List.drop_eq_getElem_cons hjd
               have HDR:=Lib.hid hdr
               have hj2:m+j<r.length:=by rw [List.length_drop] at hjd; omega
               have hjm:(r.drop m)[j]=r[m+j]:=List.getElem_drop
               have ej:=cell_keep HSr.out.bel (HEL.out (m+j+1) (by simp; omega))
               rw [List.getElem_cons_succ,← hjm,show off+(m+j+1)=o2+j by have:=HO2.out (by have:=HLN.out; omega); omega] at ej
               have htz:((r.drop m)[j]).size≤9223372036854775807:=HBZ.out _ (List.mem_cons_of_mem _ (List.mem_of_mem_drop (List.getElem_mem hjd)))
               clear hdr hjm hj2
               generalize (r.drop m)[j]=tt at *
               have hcall:=Lib.hid (wchange_any y br mr dr av nv cv tt wr HHr.out htz HRY.out (HT.out _ HSr.out.bel) (changeB y tt) (Lib.hid rfl))
               rw [changeB_eq HRY.out] at hcall
               obtain⟨xr,hxr⟩:∃ xr,xr=behindB y tt:=⟨_,rfl⟩
               rw [← hxr] at hcall
               have HXX:Hid (x=xr.bind fun q=>foldH q ((r.drop m).drop (j+1))):=Lib.hid (by rw [HXR.out,HDR.out,foldH,hxr]; cases behindB y tt <;> rfl)
               have HRX:Hid (∀ q,xr=some q→rightH q=true∧q.voters=y.voters):=Lib.hid (fun q hq=>⟨behindB_right (hxr.symm.trans hq),behindB_voters (hxr.symm.trans hq)⟩)
               clear hxr htz HXR HDR hjd
               unfold Hd.val at hcall
               have q0:=HBr.out.cell (j:=0) rfl
               have fq0:=HBr.out.free 0
               have q1:=HBr.out.cell (j:=1) rfl
               have fq1:=HBr.out.free 1
               have q2:=HBr.out.cell (j:=2) rfl
               have fq2:=HBr.out.free 2
               have q3:=HBr.out.cell (j:=3) rfl
               have fq3:=HBr.out.free 3
               have q4:=HBr.out.cell (j:=4) rfl
               have fq4:=HBr.out.free 4
               have q5:=HBr.out.cell (j:=5) rfl
               have fq5:=HBr.out.free 5
               have q6:=HBr.out.cell (j:=6) rfl
               have fq6:=HBr.out.free 6
               go_wp2_with fail
               refine hcall.out.mono ?_
               rintro e w8 ⟨t,er,lr,fr,ok,rfl,hb8,hok,hsome⟩
               unfold Hd.val
               dsimp only
               have HST8:=Lib.hid (HSr.out.keep hb8)
               have HB8:=Lib.hid (HBr.out.keep hb8)
               have HPW2:=HPW.out
               have HLT8:Hid (p<wr.heap.size∧Below p w5 w8):=Lib.hid ⟨lt_of_block HBr.out,HVr.out.2.1.trans (Below.lower hb8 (Nat.le_of_lt (lt_of_block HBr.out)))⟩
               have HSM:=Lib.hid hsome
               have HOK:=Lib.hid hok
               clear hb8 hok hsome hcall HSr HBr HHr
               clear q0 fq0 q1 fq1 q2 fq2 q3 fq3 q4 fq4 q5 fq5 q6 fq6
               have q0:=HB8.out.cell (j:=0) rfl
               have fq0:=HB8.out.free 0
               have q1:=HB8.out.cell (j:=1) rfl
               have fq1:=HB8.out.free 1
               have q2:=HB8.out.cell (j:=2) rfl
               have fq2:=HB8.out.free 2
               have q3:=HB8.out.cell (j:=3) rfl
               have fq3:=HB8.out.free 3
               have q4:=HB8.out.cell (j:=4) rfl
               have fq4:=HB8.out.free 4
               have q5:=HB8.out.cell (j:=5) rfl
               have fq5:=HB8.out.free 5
               have q6:=HB8.out.cell (j:=6) rfl
               have fq6:=HB8.out.free 6
               go_upto_region 20 with fail
               have hg9:=grown_seven w8 p (.int .i64 t.term) (.int .i64 t.vote) (.int .i64 t.base) (.int .i64 t.bt) (.slice er lr fr) (.string t.snap) (.slice av nv cv)
               have HB9:Hid (Blk (((((((w8.setCell ⟨p,0,none⟩ (.int .i64 t.term)).setCell ⟨p,1,none⟩ (.int .i64 t.vote)).setCell ⟨p,2,none⟩ (.int .i64 t.base)).setCell ⟨p,3,none⟩ (.int .i64 t.bt)).setCell ⟨p,4,none⟩ (.slice er lr fr)).setCell ⟨p,5,none⟩ (.string t.snap)).setCell ⟨p,6,none⟩ (.slice av nv cv)) p 42 [.int .i64 t.term,.int .i64 t.vote,.int .i64 t.base,.int .i64 t.bt,.slice er lr fr,.string t.snap,.slice av nv cv]):=Lib.hid (blk_seven HB8.out (.int .i64 t.term) (.int .i64 t.vote) (.int .i64 t.base) (.int .i64 t.bt) (.slice er lr fr) (.string t.snap) (.slice av nv cv))
               have HST9:Hid (HeSt w (((((((w8.setCell ⟨p,0,none⟩ (.int .i64 t.term)).setCell ⟨p,1,none⟩ (.int .i64 t.vote)).setCell ⟨p,2,none⟩ (.int .i64 t.base)).setCell ⟨p,3,none⟩ (.int .i64 t.bt)).setCell ⟨p,4,none⟩ (.slice er lr fr)).setCell ⟨p,5,none⟩ (.string t.snap)).setCell ⟨p,6,none⟩ (.slice av nv cv))):=Lib.hid ⟨HST8.out.bel.grown hg9 HST8.out.bel.size (fun q e=>by have:=Option.some.inj e; omega),HST8.out.rb.kept hg9 (fun e=>by have:=Option.some.inj e; omega)⟩
               have HG9:=Lib.hid hg9
               clear hg9 q0 fq0 q1 fq1 q2 fq2 q3 fq3 q4 fq4 q5 fq5 q6 fq6
               generalize (((((((w8.setCell ⟨p,0,none⟩ (.int .i64 t.term)).setCell ⟨p,1,none⟩ (.int .i64 t.vote)).setCell ⟨p,2,none⟩ (.int .i64 t.base)).setCell ⟨p,3,none⟩ (.int .i64 t.bt)).setCell ⟨p,4,none⟩ (.slice er lr fr)).setCell ⟨p,5,none⟩ (.string t.snap)).setCell ⟨p,6,none⟩ (.slice av nv cv))=w9 at *
               cases xr with
               | none =>
                 obtain rfl:ok=false:=HOK.out
                 have HNO:Hid (x=none):=Lib.hid (HXX.out.trans rfl)
                 clear HXX
                 have p0:=HST9.out.rb.cell (j:=0) rfl
                 have f0:=HST9.out.rb.free 0
                 have p1:=HST9.out.rb.cell (j:=1) rfl
                 have f1:=HST9.out.rb.free 1
                 have p2:=HST9.out.rb.cell (j:=2) rfl
                 have f2:=HST9.out.rb.free 2
                 have p3:=HST9.out.rb.cell (j:=3) rfl
                 have f3:=HST9.out.rb.free 3
                 have p4:=HST9.out.rb.cell (j:=4) rfl
                 have f4:=HST9.out.rb.free 4
                 have p5:=HST9.out.rb.cell (j:=5) rfl
                 have f5:=HST9.out.rb.free 5
                 have p6:=HST9.out.rb.cell (j:=6) rfl
                 have f6:=HST9.out.rb.free 6
                 go_wp2_with fail
                 (try simp only [Exit.inBlock,Exit.then])
                 have hz9:=blk_seven HST9.out.rb (.int .i64 0) (.int .i64 0) (.int .i64 0) (.int .i64 0) (.slice none 0 0) (.string ⟨#[]⟩) (.slice none 0 0)
                 have hg9:=grown_seven w9 w.heap.size (.int .i64 0) (.int .i64 0) (.int .i64 0) (.int .i64 0) (.slice none 0 0) (.string ⟨#[]⟩) (.slice none 0 0)
                 have HB9:=Lib.hid (HST9.out.bel.grown hg9 HST9.out.bel.size (fun q e=>by have:=Option.some.inj e; omega))
                 refine bodyPost_ret (v:=.tuple #[.agg #[.int .i64 0,.int .i64 0,.int .i64 0,.int .i64 0,.slice none 0 0,.string ⟨#[]⟩,.slice none 0 0],.bool false]) ?_ rfl ?_
                 ·exact results_row_tmp (p:=2) (u:=3) rfl _ _ w.heap.size 42 _ (0,0) _ rfl hz9 Tryz.underlying42 rfl (by kernel_rfl)
                 ·exact⟨Hd.zero,none,0,0,none,0,0,false,rfl,HB9.out,by rw [HNO.out]; rfl,fun z hz=>by rw [HNO.out] at hz; cases hz⟩
               | some q =>
                 obtain rfl:ok=true:=HOK.out
                 obtain⟨rfl,hh8,hfr8⟩:=HSM.out q rfl
                 have hrx:=HRX.out _ rfl
                 have hb59:Below p w5 w9:=HLT8.out.2.grown HG9.out (by have:=HPS.out; have:=HLT8.out.2.size; omega) (fun q e=>Nat.le_of_eq (Option.some.inj e))
                 have hv9:t.voters=z.voters:=hrx.2.trans HVr.out.1
                 have HH9:Hid (HdAt w9 t er lr fr av nv cv):=Lib.hid { hh8 with
                  recs:=hh8.recs.kept HG9.out (fun q e=>by
                   cases er with
                   | none=>cases e
                   | some u =>
                     have h1:=hfr8 u rfl
                     have h2:=HLT8.out.1
                     simp at e ⊢
                     omega)
                  voters:=by
                   have h1:=HVO.out
                   rw [← hv9] at h1
                   rw [HPE.out] at hb59
                   exact h1.keep hb59 }
                 have HV9:Hid (t.voters=z.voters∧Below p w5 w9∧∀ q,er=some q→w.heap.size<q.block):=Lib.hid ⟨hv9,hb59,fun q e=>by have:=hfr8 q e; have:=HLT8.out.1; omega⟩
                 have HR9:=Lib.hid hrx.1
                 have HX9:Hid (x=foldH t ((r.drop m).drop (j+1))):=Lib.hid HXX.out
                 clear hb59 hv9 hrx hh8 hfr8 HXX HSM HRX HVr
                 go_wp2_with fail
                 go_roundg (L - (j+1))
                 case rel=>exact⟨j+1,t,er,lr,fr,by omega,rfl,by go_num,HX9,HR9,HH9,HV9,HB9,HST9⟩
                 case measure=>omega
              ·have hjE:j=L:=by omega
               have HXE:Hid (x=some y):=Lib.hid (by rw [HXR.out,hjE,List.drop_of_length_le (by have:=HRD.out; omega)]; rfl)
               clear HXR
               have q0:=HBr.out.cell (j:=0) rfl
               have p0:=HSr.out.rb.cell (j:=0) rfl
               have f0:=HSr.out.rb.free 0
               have q1:=HBr.out.cell (j:=1) rfl
               have p1:=HSr.out.rb.cell (j:=1) rfl
               have f1:=HSr.out.rb.free 1
               have q2:=HBr.out.cell (j:=2) rfl
               have p2:=HSr.out.rb.cell (j:=2) rfl
               have f2:=HSr.out.rb.free 2
               have q3:=HBr.out.cell (j:=3) rfl
               have p3:=HSr.out.rb.cell (j:=3) rfl
               have f3:=HSr.out.rb.free 3
               have q4:=HBr.out.cell (j:=4) rfl
               have p4:=HSr.out.rb.cell (j:=4) rfl
               have f4:=HSr.out.rb.free 4
               have q5:=HBr.out.cell (j:=5) rfl
               have p5:=HSr.out.rb.cell (j:=5) rfl
               have f5:=HSr.out.rb.free 5
               have q6:=HBr.out.cell (j:=6) rfl
               have p6:=HSr.out.rb.cell (j:=6) rfl
               have f6:=HSr.out.rb.free 6
               go_wp2_with fail
               (try simp only [Exit.inBlock,Exit.then])
               have hz9:=blk_seven HSr.out.rb (.int .i64 y.term) (.int .i64 y.vote) (.int .i64 y.base) (.int .i64 y.bt) (.slice br mr dr) (.string y.snap) (.slice av nv cv)
               have hg9:=grown_seven wr w.heap.size (.int .i64 y.term) (.int .i64 y.vote) (.int .i64 y.base) (.int .i64 y.bt) (.slice br mr dr) (.string y.snap) (.slice av nv cv)
               have HB9:=Lib.hid (HSr.out.bel.grown hg9 HSr.out.bel.size (fun q e=>by have:=Option.some.inj e; omega))
               refine bodyPost_ret (v:=.tuple #[.agg #[.int .i64 y.term,.int .i64 y.vote,.int .i64 y.base,.int .i64 y.bt,.slice br mr dr,.string y.snap,.slice av nv cv],.bool true]) ?_ rfl ?_
               ·exact results_row_tmp (p:=2) (u:=3) rfl _ _ w.heap.size 42 _ (0,0) _ rfl hz9 Tryz.underlying42 rfl (by kernel_rfl)
               ·refine⟨y,br,mr,dr,av,nv,cv,true,rfl,HB9.out,by rw [HXE.out]; rfl,fun q hq=>?_⟩
                rw [HXE.out] at hq
                cases hq
                exact⟨rfl,hdAt_kept HHr.out hg9 (fun q e he=>by have h1:=HVr.out.2.2 q e; have:=Option.some.inj he; omega) (fun q e he=>by have h1:=HFA.out.2 q e; have:=Option.some.inj he; omega),fun q e=>by have h1:=HVr.out.2.2 q e; omega,fun q e=>by have h1:=HFA.out.2 q e; omega⟩
          ·have HNO:Hid (x=none):=Lib.hid (by
            rw [HX2.out,if_neg]
            rintro⟨h1,-⟩
            exact hbad h1)
           clear HX2
           go_quiet (fail)
           have HST7:=Lib.hid (HST6.out.keep (below_drewN (Below.refl _ w6) nq))
           generalize w6.drewN nq=w7 at *
           have p0:=HST7.out.rb.cell (j:=0) rfl
           have f0:=HST7.out.rb.free 0
           have p1:=HST7.out.rb.cell (j:=1) rfl
           have f1:=HST7.out.rb.free 1
           have p2:=HST7.out.rb.cell (j:=2) rfl
           have f2:=HST7.out.rb.free 2
           have p3:=HST7.out.rb.cell (j:=3) rfl
           have f3:=HST7.out.rb.free 3
           have p4:=HST7.out.rb.cell (j:=4) rfl
           have f4:=HST7.out.rb.free 4
           have p5:=HST7.out.rb.cell (j:=5) rfl
           have f5:=HST7.out.rb.free 5
           have p6:=HST7.out.rb.cell (j:=6) rfl
           have f6:=HST7.out.rb.free 6
           go_wp2_with fail
           (try simp only [Exit.inBlock,Exit.then])
           have hz9:=blk_seven HST7.out.rb (.int .i64 0) (.int .i64 0) (.int .i64 0) (.int .i64 0) (.slice none 0 0) (.string ⟨#[]⟩) (.slice none 0 0)
           have hg9:=grown_seven w7 w.heap.size (.int .i64 0) (.int .i64 0) (.int .i64 0) (.int .i64 0) (.slice none 0 0) (.string ⟨#[]⟩) (.slice none 0 0)
           have HB9:=Lib.hid (HST7.out.bel.grown hg9 HST7.out.bel.size (fun q e=>by have:=Option.some.inj e; omega))
           refine bodyPost_ret (v:=.tuple #[.agg #[.int .i64 0,.int .i64 0,.int .i64 0,.int .i64 0,.slice none 0 0,.string ⟨#[]⟩,.slice none 0 0],.bool false]) ?_ rfl ?_
           ·exact results_row_tmp (p:=2) (u:=3) rfl _ _ w.heap.size 42 _ (0,0) _ rfl hz9 Tryz.underlying42 rfl (by kernel_rfl)
           ·exact⟨Hd.zero,none,0,0,none,0,0,false,rfl,HB9.out,by rw [HNO.out]; rfl,fun z hz=>by rw [HNO.out] at hz; cases hz⟩
       ·have HNO:Hid (x=none):=Lib.hid (by
         rw [HX.out,if_neg]
         rintro⟨-,-,-,h1⟩
         have h1:vn≤(r.length:Int):=h1
         have:=HVN.out; have:=HN.out; omega)
        have hmnI:(n:Int)≤(m:Int):=by omega
        clear HX HKK hk9
        have p0:=HST3.out.rb.cell (j:=0) rfl
        have f0:=HST3.out.rb.free 0
        have p1:=HST3.out.rb.cell (j:=1) rfl
        have f1:=HST3.out.rb.free 1
        have p2:=HST3.out.rb.cell (j:=2) rfl
        have f2:=HST3.out.rb.free 2
        have p3:=HST3.out.rb.cell (j:=3) rfl
        have f3:=HST3.out.rb.free 3
        have p4:=HST3.out.rb.cell (j:=4) rfl
        have f4:=HST3.out.rb.free 4
        have p5:=HST3.out.rb.cell (j:=5) rfl
        have f5:=HST3.out.rb.free 5
        have p6:=HST3.out.rb.cell (j:=6) rfl
        have f6:=HST3.out.rb.free 6
        go_wp2_with (go_at_call 116; refine (HCW.out _).mono ?_; rintro e w' ⟨rfl,rfl⟩)
        (try simp only [Exit.inBlock,Exit.then])
        have hz9:=blk_seven HST3.out.rb (.int .i64 0) (.int .i64 0) (.int .i64 0) (.int .i64 0) (.slice none 0 0) (.string ⟨#[]⟩) (.slice none 0 0)
        have hg9:=grown_seven w3 w.heap.size (.int .i64 0) (.int .i64 0) (.int .i64 0) (.int .i64 0) (.slice none 0 0) (.string ⟨#[]⟩) (.slice none 0 0)
        have HB9:=Lib.hid (HST3.out.bel.grown hg9 HST3.out.bel.size (fun q e=>by have:=Option.some.inj e; omega))
        refine bodyPost_ret (v:=.tuple #[.agg #[.int .i64 0,.int .i64 0,.int .i64 0,.int .i64 0,.slice none 0 0,.string ⟨#[]⟩,.slice none 0 0],.bool false]) ?_ rfl ?_
        ·exact results_row_tmp (p:=2) (u:=3) rfl _ _ w.heap.size 42 _ (0,0) _ rfl hz9 Tryz.underlying42 rfl (by kernel_rfl)
        ·exact⟨Hd.zero,none,0,0,none,0,0,false,rfl,HB9.out,by rw [HNO.out]; rfl,fun z hz=>by rw [HNO.out] at hz; cases hz⟩
      ·have HCW:Hid (∀ W,Calls Tryz.prog 116 #[.int .i64 kn,.int .i64 1,.int .i64 9] W fun e w'=>e = .returned (.bool false)∧W=w'):=Lib.hid (fun W=>by
        have h:=ww_any kn 1 9 W
        rw [show (decide (1≤kn)&&decide (kn≤9))=false by rw [Bool.and_eq_false_iff,decide_eq_false_iff_not,decide_eq_false_iff_not]; omega] at h
        exact h)
       have HNO:Hid (x=none):=Lib.hid (by
        rw [HX.out,if_neg]
        rintro⟨-,-,⟨h1,h2⟩,-⟩
        have h1:1≤vn:=h1
        have h2:vn≤9:=h2
        have h3:=HKK.out.2
        have h4:=cl_of (n:=vn) (by omega) (by omega)
        omega)
       clear HX HKK hk9
       have p0:=HST3.out.rb.cell (j:=0) rfl
       have f0:=HST3.out.rb.free 0
       have p1:=HST3.out.rb.cell (j:=1) rfl
       have f1:=HST3.out.rb.free 1
       have p2:=HST3.out.rb.cell (j:=2) rfl
       have f2:=HST3.out.rb.free 2
       have p3:=HST3.out.rb.cell (j:=3) rfl
       have f3:=HST3.out.rb.free 3
       have p4:=HST3.out.rb.cell (j:=4) rfl
       have f4:=HST3.out.rb.free 4
       have p5:=HST3.out.rb.cell (j:=5) rfl
       have f5:=HST3.out.rb.free 5
       have p6:=HST3.out.rb.cell (j:=6) rfl
       have f6:=HST3.out.rb.free 6
       go_wp2_with (go_at_call 116; refine (HCW.out _).mono ?_; rintro e w' ⟨rfl,rfl⟩)
       (try simp only [Exit.inBlock,Exit.then])
       have hz9:=blk_seven HST3.out.rb (.int .i64 0) (.int .i64 0) (.int .i64 0) (.int .i64 0) (.slice none 0 0) (.string ⟨#[]⟩) (.slice none 0 0)
       have hg9:=grown_seven w3 w.heap.size (.int .i64 0) (.int .i64 0) (.int .i64 0) (.int .i64 0) (.slice none 0 0) (.string ⟨#[]⟩) (.slice none 0 0)
       have HB9:=Lib.hid (HST3.out.bel.grown hg9 HST3.out.bel.size (fun q e=>by have:=Option.some.inj e; omega))
       refine bodyPost_ret (v:=.tuple #[.agg #[.int .i64 0,.int .i64 0,.int .i64 0,.int .i64 0,.slice none 0 0,.string ⟨#[]⟩,.slice none 0 0],.bool false]) ?_ rfl ?_
       ·exact results_row_tmp (p:=2) (u:=3) rfl _ _ w.heap.size 42 _ (0,0) _ rfl hz9 Tryz.underlying42 rfl (by kernel_rfl)
       ·exact⟨Hd.zero,none,0,0,none,0,0,false,rfl,HB9.out,by rw [HNO.out]; rfl,fun z hz=>by rw [HNO.out] at hz; cases hz⟩
   ·have HNO:Hid (x=none):=Lib.hid (by
     rw [HX.out,if_neg]
     rintro⟨h1,-⟩
     exact hb0 h1)
    clear HX HKK
    have p0:=HST3.out.rb.cell (j:=0) rfl
    have f0:=HST3.out.rb.free 0
    have p1:=HST3.out.rb.cell (j:=1) rfl
    have f1:=HST3.out.rb.free 1
    have p2:=HST3.out.rb.cell (j:=2) rfl
    have f2:=HST3.out.rb.free 2
    have p3:=HST3.out.rb.cell (j:=3) rfl
    have f3:=HST3.out.rb.free 3
    have p4:=HST3.out.rb.cell (j:=4) rfl
    have f4:=HST3.out.rb.free 4
    have p5:=HST3.out.rb.cell (j:=5) rfl
    have f5:=HST3.out.rb.free 5
    have p6:=HST3.out.rb.cell (j:=6) rfl
    have f6:=HST3.out.rb.free 6
    go_wp2_with fail
    (try simp only [Exit.inBlock,Exit.then])
    have hz9:=blk_seven HST3.out.rb (.int .i64 0) (.int .i64 0) (.int .i64 0) (.int .i64 0) (.slice none 0 0) (.string ⟨#[]⟩) (.slice none 0 0)
    have hg9:=grown_seven w3 w.heap.size (.int .i64 0) (.int .i64 0) (.int .i64 0) (.int .i64 0) (.slice none 0 0) (.string ⟨#[]⟩) (.slice none 0 0)
    have HB9:=Lib.hid (HST3.out.bel.grown hg9 HST3.out.bel.size (fun q e=>by have:=Option.some.inj e; omega))
    refine bodyPost_ret (v:=.tuple #[.agg #[.int .i64 0,.int .i64 0,.int .i64 0,.int .i64 0,.slice none 0 0,.string ⟨#[]⟩,.slice none 0 0],.bool false]) ?_ rfl ?_
    ·exact results_row_tmp (p:=2) (u:=3) rfl _ _ w.heap.size 42 _ (0,0) _ rfl hz9 Tryz.underlying42 rfl (by kernel_rfl)
    ·exact⟨Hd.zero,none,0,0,none,0,0,false,rfl,HB9.out,by rw [HNO.out]; rfl,fun z hz=>by rw [HNO.out] at hz; cases hz⟩
end Go.Proofs.YtlpgbmaoenncjaaGreatDoor

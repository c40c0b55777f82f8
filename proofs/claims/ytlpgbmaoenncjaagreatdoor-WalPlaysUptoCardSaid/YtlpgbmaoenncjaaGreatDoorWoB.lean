/-
  The walk of wal.change: one change of a state. (Written by wip/mkwob.py.)
-/
import Derived.Test.YtlpgbmaoenncjaaGreatDoorWhAll
import Derived.Test.YtlpgbmaoenncjaaGreatDoorWoA
import Derived.Test.YtlpgbmaoenncjaaGreatDoorWsOne
namespace Go.Proofs.YtlpgbmaoenncjaaGreatDoor
open Go.RowKit
set_option linter.unusedVariables false
set_option maxRecDepth 100000
def ChP (w:World) (x:Option Hd) (av:Option Addr) (nv cv:Nat) (e:Ending) (w':World):Prop :=
 ∃ (z:Hd) (ar:Option Addr) (nr cr:Nat) (ok:Bool),e = .returned (.tuple #[z.val ar nr cr av nv cv,.bool ok])∧Below w.heap.size w w'∧ok=x.isSome∧∀ y,x=some y→z=y∧HdAt w' y ar nr cr av nv cv∧∀ q,ar=some q→w.heap.size≤q.block
theorem own_three {w:World}{base:Nat}{a:Option Addr}{c:Nat}{x y z:Int}(h:w.ownsRow base 3 1 (.slice a 3 c) 3 (i64s [x,y,z])):∃ g,a=some ⟨g,0,none⟩∧base≤g∧g<w.heap.size∧w.cell? ⟨g,0,none⟩=some (.int .i64 x)∧w.cell? ⟨g,1,none⟩=some (.int .i64 y)∧w.cell? ⟨g,2,none⟩=some (.int .i64 z):=by
 obtain⟨a',n',c',he,hsl,hfr,-⟩:=own_slice h
 cases he
 rcases hsl.2 with h0 | ⟨b,off,rfl,hc⟩
 ·have:=congrArg List.length h0; simp [i64s] at this
 ·rcases h.2 with ⟨hv,-⟩ | ⟨g,cap,cur,hv,hb,hh,-⟩
  ·cases hv
  ·cases hv
   exact⟨b,rfl,hb,lt_of_block hh,hc 0 (by simp [i64s]),hc 1 (by simp [i64s]),hc 2 (by simp [i64s])⟩
theorem list_of4 {α:Type}{l:List α}(h:l.length=4):∃ a b c d,l=[a,b,c,d]:=by
 match l,h with
 | [a,b,c,d],_=>exact⟨a,b,c,d,rfl⟩
structure ChSt (w W:World) (hs rs:List Value):Prop where
 bel:Below w.heap.size w W
 hb:Blk W w.heap.size 42 hs
 rb:Blk W (w.heap.size+1) 42 rs
theorem ChSt.keep {w W W':World}{hs rs:List Value}(h:ChSt w W hs rs) (hb:Below W.heap.size W W'):ChSt w W' hs rs :=
 ⟨below_then h.bel hb h.bel.size,h.hb.keep hb,h.rb.keep hb⟩
theorem ch_start (w:World) (hs rs:List Value):ChSt w ((w.alloc (.cells hs.toArray 42)).alloc (.cells rs.toArray 42)) hs rs:=by
 have h:=Blk.both w (.cells hs.toArray 42) (.cells rs.toArray 42) 42 42 hs rs rfl rfl
 refine⟨?_,h.1,h.2⟩
 exact ((Below.refl w.heap.size w).alloc (Nat.le_refl _) _).alloc (by simp) _
theorem head_recs {a:Option Addr}{n c k:Nat}(hk:k≤c) (h0:a=none→k=0):∀ w,(Instr.sliceAt 22 (.slice a n c) none (some (.int .i64 (k:Int))) none).run Tryz.prog w = .ok (.slice a k c) w:=by
 have u:=Tryz.underlying22
 intro w
 rcases a with - | ⟨b,off,sp⟩
 ·obtain rfl:=h0 rfl
  simp [go_sem]
 ·simp [go_sem,hk]
theorem wp_skipO {P:Program}{o:Oper}{a:Act}{w w':World}{K:Act→World→Prop}{Q:Exit→Act→World→Prop}(hr:(execOp a.eval o).run P w = .ok .skip w') (h:K (a.put o.dst undef) w'):Oper.wp P o a w K Q:=by
 unfold Oper.wp
 rw [hr]
 exact h
def chgT (g:Nat) (tm vo ba bt:Int) (ar:Option Addr) (nr cr:Nat) (sn:ByteArray) (av:Option Addr) (nv cv:Nat) (rt:Bool) (w1:World):Nat→Value→World→Prop
 | 0,v,w=>v = .agg #[.int .i64 tm,.int .i64 vo,.int .i64 ba,.int .i64 bt,.slice ar nr cr,.string sn,.slice av nv cv]
 | 1,v,w=>v = .agg #[.int .i64 tm,.int .i64 vo,.int .i64 ba,.int .i64 bt,.slice ar nr cr,.string sn,.slice av nv cv]
 | 2,v,w=>v = .bool rt
 | _,_,_=>True
def chgD:Nat→List Nat
 | _=>[]
theorem chg_keep (g:Nat) (tm vo ba bt:Int) (ar:Option Addr) (nr cr:Nat) (sn:ByteArray) (av:Option Addr) (nv cv:Nat) (rt:Bool) (w1:World):∀ (j:Nat) (u:Value) (w w':World),Below w.heap.size w w'→(chgT g tm vo ba bt ar nr cr sn av nv cv rt w1) j u w→(chgT g tm vo ba bt ar nr cr sn av nv cv rt w1) j u w'
 | 0,u,w,w',hb,h=>h
 | 1,u,w,w',hb,h=>h
 | 2,u,w,w',hb,h=>h
 | _+3,u,w,w',hb,h=>trivial
set_option maxHeartbeats 4000000 in
theorem chg_steps (g:Nat) (tm vo ba bt:Int) (ar:Option Addr) (nr cr:Nat) (sn:ByteArray) (av:Option Addr) (nv cv:Nat) (rt:Bool) (w1:World) (hB:Blk w1 g 42 [.int .i64 tm,.int .i64 vo,.int .i64 ba,.int .i64 bt,.slice ar nr cr,.string sn,.slice av nv cv]) (hR:∀ W,Below w1.heap.size w1 W→Calls Tryz.prog 23 #[.agg #[.int .i64 tm,.int .i64 vo,.int .i64 ba,.int .i64 bt,.slice ar nr cr,.string sn,.slice av nv cv]] W fun e w'=>e = .returned (.bool rt)∧Below W.heap.size W w') {a:Act}(hs:a.tmps.size=86) (b2:a.eval (.tmp 2) = .pointer (some ⟨g,0,none⟩)):∀ i o,i<3→(regOf Tryz.f119 11)[i]? = some o→StepOkT Tryz.prog (regOf Tryz.f119 11) 3 a (fun w=>Below w1.heap.size w1 w) (chgT g tm vo ba bt ar nr cr sn av nv cv rt w1) chgD i o:=by
 have hz:∀ t,Nat.blt t 86=true→Nat.blt t a.tmps.size=true:=fun t h=>by rw [hs]; exact h
 have hsz:(regOf Tryz.f119 11).size=5:=by kernel_rfl
 intro i o hii ho
 match i,hii with
 | 0,_ =>
   have ho1:=opIs ho (p:=.load 42 (.tmp 2)) (by kernel_rfl)
   have hg:=guardIs ho (p:=none) (by kernel_rfl)
   intro e A w hA hC hp hnT K hk
   have x2:A.eval (.tmp 2) = .pointer (some ⟨g,0,none⟩):=filled_base hA (by kernel_rfl) b2
   have hw:Region.wanted o (yielded (regOf Tryz.f119 11) A.tmps)=true:=wanted_free hg
   have e0:w.cell? ⟨g,0,none⟩=some (.int .i64 tm):=(World.cell?_of_block (hC.block g (lt_of_block hB))).trans (hB.cell (j:=0) rfl)
   have e1:w.cell? ⟨g,1,none⟩=some (.int .i64 vo):=(World.cell?_of_block (hC.block g (lt_of_block hB))).trans (hB.cell (j:=1) rfl)
   have e2:w.cell? ⟨g,2,none⟩=some (.int .i64 ba):=(World.cell?_of_block (hC.block g (lt_of_block hB))).trans (hB.cell (j:=2) rfl)
   have e3:w.cell? ⟨g,3,none⟩=some (.int .i64 bt):=(World.cell?_of_block (hC.block g (lt_of_block hB))).trans (hB.cell (j:=3) rfl)
   have e4:w.cell? ⟨g,4,none⟩=some (.slice ar nr cr):=(World.cell?_of_block (hC.block g (lt_of_block hB))).trans (hB.cell (j:=4) rfl)
   have e5:w.cell? ⟨g,5,none⟩=some (.string sn):=(World.cell?_of_block (hC.block g (lt_of_block hB))).trans (hB.cell (j:=5) rfl)
   have e6:w.cell? ⟨g,6,none⟩=some (.slice av nv cv):=(World.cell?_of_block (hC.block g (lt_of_block hB))).trans (hB.cell (j:=6) rfl)
   refine step_pure (v:=.agg #[.int .i64 tm,.int .i64 vo,.int .i64 ba,.int .i64 bt,.slice ar nr cr,.string sn,.slice av nv cv]) hk hC hw ?_ rfl
   unfold execOp
   simp only [ho1]
   generalize A.eval=ρ at x2 ⊢
   simp [go_sem,x2,e0,e1,e2,e3,e4,e5,e6]
 | 1,_ =>
   have ho1:=opIs ho (p:=.load 42 (.tmp 2)) (by kernel_rfl)
   have hg:=guardIs ho (p:=none) (by kernel_rfl)
   intro e A w hA hC hp hnT K hk
   have x2:A.eval (.tmp 2) = .pointer (some ⟨g,0,none⟩):=filled_base hA (by kernel_rfl) b2
   have hw:Region.wanted o (yielded (regOf Tryz.f119 11) A.tmps)=true:=wanted_free hg
   have e0:w.cell? ⟨g,0,none⟩=some (.int .i64 tm):=(World.cell?_of_block (hC.block g (lt_of_block hB))).trans (hB.cell (j:=0) rfl)
   have e1:w.cell? ⟨g,1,none⟩=some (.int .i64 vo):=(World.cell?_of_block (hC.block g (lt_of_block hB))).trans (hB.cell (j:=1) rfl)
   have e2:w.cell? ⟨g,2,none⟩=some (.int .i64 ba):=(World.cell?_of_block (hC.block g (lt_of_block hB))).trans (hB.cell (j:=2) rfl)
   have e3:w.cell? ⟨g,3,none⟩=some (.int .i64 bt):=(World.cell?_of_block (hC.block g (lt_of_block hB))).trans (hB.cell (j:=3) rfl)
   have e4:w.cell? ⟨g,4,none⟩=some (.slice ar nr cr):=(World.cell?_of_block (hC.block g (lt_of_block hB))).trans (hB.cell (j:=4) rfl)
   have e5:w.cell? ⟨g,5,none⟩=some (.string sn):=(World.cell?_of_block (hC.block g (lt_of_block hB))).trans (hB.cell (j:=5) rfl)
   have e6:w.cell? ⟨g,6,none⟩=some (.slice av nv cv):=(World.cell?_of_block (hC.block g (lt_of_block hB))).trans (hB.cell (j:=6) rfl)
   refine step_pure (v:=.agg #[.int .i64 tm,.int .i64 vo,.int .i64 ba,.int .i64 bt,.slice ar nr cr,.string sn,.slice av nv cv]) hk hC hw ?_ rfl
   unfold execOp
   simp only [ho1]
   generalize A.eval=ρ at x2 ⊢
   simp [go_sem,x2,e0,e1,e2,e3,e4,e5,e6]
 | 2,_ =>
   have ho1:=opIs ho (p:=.call { callee:=(.value (.func 23)),args:=#[(.tmp 84)],argTypes:=#[42] }) (by kernel_rfl)
   have hg:=guardIs ho (p:=none) (by kernel_rfl)
   intro e A w hA hC hp hnT K hk
   have x84:A.eval (.tmp 84) = .agg #[.int .i64 tm,.int .i64 vo,.int .i64 ba,.int .i64 bt,.slice ar nr cr,.string sn,.slice av nv cv]:=op_tmp hA hp 84 1 (by kernel_rfl) (by kernel_rfl) (by kernel_rfl) (hz _ rfl)
   have hw:Region.wanted o (yielded (regOf Tryz.f119 11) A.tmps)=true:=wanted_free hg
   refine step_call (f:=23) (args:=#[.agg #[.int .i64 tm,.int .i64 vo,.int .i64 ba,.int .i64 bt,.slice ar nr cr,.string sn,.slice av nv cv]]) hk hw ?_ ?_
   ·unfold execOp
    simp only [ho1]
    have xf:∀ f,A.eval (.func f) = .func (.func f) #[] #[]:=fun _=>rfl
    generalize A.eval=ρ at x84 xf ⊢
    simp [go_sem,xf,x84]
   ·refine (hR w hC).mono ?_
    rintro en' w' ⟨rfl,hb'⟩
    exact⟨_,rfl,rfl,below_then hC hb' hC.size,fun j u _ _ _ _ h=>chg_keep g tm vo ba bt ar nr cr sn av nv cv rt w1 j u w _ hb' h⟩
 | _+3,h=>exact absurd h (by omega)
set_option maxHeartbeats 4000000 in
theorem wchange_any (h:Hd) (ar:Option Addr) (nr cr:Nat) (av:Option Addr) (nv cv:Nat) (b:ByteArray) (w:World) (H:HdAt w h ar nr cr av nv cv) (hm:b.size≤9223372036854775807) (hr:rightH h=true) (htab:Lib.TabIs Tryz.prog w "internal/strconv.uint64pow10" .u64 Lib.pow10Tab) (x:Option Hd) (hx:Hid (x=changeB h b)) :
 Calls Tryz.prog 119 #[h.val ar nr cr av nv cv,.string b] w (ChP w x av nv cv):=by
 have HT:=Lib.hid (Lib.tabBelow_of_tabIs htab)
 have hlog:=right_log hr
 have hlen:h.recs.length≤200:=by
  have hh:=(shaped_in (rightH_shaped hr)).1
  unfold headW headL at hh
  omega
 obtain⟨tm,vo,ba,bt,rs,sn,vs⟩:=h
 unfold Hd.val
 dsimp only at *
 have HST:=Lib.hid (ch_start w [.int .i64 tm,.int .i64 vo,.int .i64 ba,.int .i64 bt,.slice ar nr cr,.string sn,.slice av nv cv] [.int .i64 0,.int .i64 0,.int .i64 0,.int .i64 0,.slice none 0 0,.string ⟨#[]⟩,.slice none 0 0])
 have HG:=Lib.hid (get_any b ((w.alloc (.cells #[.int .i64 tm,.int .i64 vo,.int .i64 ba,.int .i64 bt,.slice ar nr cr,.string sn,.slice av nv cv] 42)).alloc (.cells #[.int .i64 0,.int .i64 0,.int .i64 0,.int .i64 0,.slice none 0 0,.string ⟨#[]⟩,.slice none 0 0] 42)) hm)
 have HH:=Lib.hid H
 have hnr:nr=rs.length:=H.rlen
 have hcap:=H.cap
 have HLG:=Lib.hid (And.intro hlog.1 hlog.2)
 have HLN:=Lib.hid hlen
 have HNR:=Lib.hid hnr
 have HCAP:=Lib.hid hcap
 clear hr htab H hlog hlen hcap hnr
 obtain⟨v,hv⟩:∃ v,v=(getL b).v:=⟨_,rfl⟩
 obtain⟨bd,hbd⟩:∃ bd,bd=(getL b).bad:=⟨_,rfl⟩
 obtain⟨at_,hat_⟩:∃ k,k=(getL b).at_:=⟨_,rfl⟩
 have HOK:Hid (bd=0→v.cnt≤4000∧(putL v).length≤131072):=Lib.hid (fun h0=>by
  have h:=getL_ok b (hbd.symm.trans h0)
  rw [← hv] at h
  exact⟨h.2.2.1,h.2.2.2.2⟩)
 have HX:Hid (x=if bd=0∧changeOk ⟨tm,vo,ba,bt,rs,sn,vs⟩ v then some (changeH ⟨tm,vo,ba,bt,rs,sn,vs⟩ v) else none):=Lib.hid (by rw [hx.out,hv,hbd]; rfl)
 have hGG:∀ e w',GetPost ((w.alloc (.cells #[.int .i64 tm,.int .i64 vo,.int .i64 ba,.int .i64 bt,.slice ar nr cr,.string sn,.slice av nv cv] 42)).alloc (.cells #[.int .i64 0,.int .i64 0,.int .i64 0,.int .i64 0,.slice none 0 0,.string ⟨#[]⟩,.slice none 0 0] 42)) (getL b) e w'→GetPost ((w.alloc (.cells #[.int .i64 tm,.int .i64 vo,.int .i64 ba,.int .i64 bt,.slice ar nr cr,.string sn,.slice av nv cv] 42)).alloc (.cells #[.int .i64 0,.int .i64 0,.int .i64 0,.int .i64 0,.slice none 0 0,.string ⟨#[]⟩,.slice none 0 0] 42)) ⟨v,bd,at_⟩ e w':=by
  intro e w' hp
  rw [hv,hbd,hat_]
  exact hp
 replace HG:=Lib.hid (HG.out.mono hGG)
 clear hGG hx hv hbd hat_
 go_enter Tryz.func119,Tryz.ntmps119
 go_wp2_with fail
 refine HG.out.mono ?_
 rintro e w1 ⟨cs,rfl,hat,hb1⟩
 dsimp only
 have HST1:=Lib.hid (HST.out.keep hb1)
 obtain⟨vk,vn,vt,vl⟩:=v
 simp only [V.At] at hat
 obtain⟨va,vc,rfl,hvc,hv0,hall⟩:=hat
 have hb2:Below w1.heap.size w1 (w1.alloc (.cells #[.int .i64 vk,.int .i64 vn,.string vt,.slice va vl.length vc] 70)):=(Below.refl w1.heap.size w1).alloc (Nat.le_refl _) _
 have HST2:=Lib.hid (HST1.out.keep hb2)
 have HV2:Hid ((w1.alloc (.cells #[.int .i64 vk,.int .i64 vn,.string vt,.slice va vl.length vc] 70)).heap[w1.heap.size]? = some (.cells #[.int .i64 vk,.int .i64 vn,.string vt,.slice va vl.length vc] 70 (0,0))):=Lib.hid (heap_alloc_new w1 _)
 have HALL:=Lib.hid (VAll.move (w':=w1.alloc (.cells #[.int .i64 vk,.int .i64 vn,.string vt,.slice va vl.length vc] 70)) (T:=fun p=>p<w1.heap.size) (fun _ h=>h.2) (fun p hp=>hb2.block p hp.2) _ _ _ hall)
 have HS2:Hid ((w1.alloc (.cells #[.int .i64 vk,.int .i64 vn,.string vt,.slice va vl.length vc] 70)).heap.size=w1.heap.size+1):=Lib.hid (by simp)
 have HW1:Hid (w.heap.size+1<w1.heap.size):=Lib.hid (lt_of_block HST1.out.rb)
 clear hall hb1 hb2 HG HST HST1
 go_upto_region 2 with fail
 generalize (w1.alloc (.cells #[.int .i64 vk,.int .i64 vn,.string vt,.slice va vl.length vc] 70))=w2 at *
 have v0:=(Lib.cell_of_heap HV2.out 0).trans (show _=some (Value.int .i64 vk) from rfl)
 have v1:=(Lib.cell_of_heap HV2.out 1).trans (show _=some (Value.int .i64 vn) from rfl)
 have v2:=(Lib.cell_of_heap HV2.out 2).trans (show _=some (Value.string vt) from rfl)
 have v3:=(Lib.cell_of_heap HV2.out 3).trans (show _=some (Value.slice va vl.length vc) from rfl)
 have hcall:=Lib.hid (wnums_any vk vn vt va vl vc 3 w2 _ HALL.out hvc hv0 (by decide) _ (Lib.hid rfl))
 go_wp2_with fail
 refine hcall.out.mono ?_
 rintro e w3 ⟨hb3,hcase⟩
 have HST3:=Lib.hid (HST2.out.keep hb3)
 have HV3:=Lib.hid ((hb3.block _ (lt_of_block HV2.out)).trans HV2.out)
 have HK3:=Lib.hid hb3
 have hsz3:=hb3.size
 clear v0 v1 v2 v3 hcall hb3
 rcases hcase with ⟨hbf,fa,fn',fc,rfl⟩ | ⟨hbt,na,nc,rfl,hnums⟩
 ·have HNO:Hid (x=none):=Lib.hid (by
   rw [HX.out,if_neg]
   rintro⟨-,h1,h2,⟨h3,h4,h5⟩,-⟩
   have h1:vk=3:=h1
   have h2:vl.length=4:=h2
   match vl,h2 with
   | [g0,g1,g2,g3],_ =>
     have k0:g0.k=1:=h3
     have k1:g1.k=1:=h4
     have k2:g2.k=1:=h5
     subst h1
     simp [isNum,k0,k1,k2] at hbf)
  clear hbf HX HOK
  by_cases hb0:bd=0
  ·subst hb0
   have q0:=HST3.out.hb.cell (j:=0) rfl
   have p0:=HST3.out.rb.cell (j:=0) rfl
   have f0:=HST3.out.rb.free 0
   have q1:=HST3.out.hb.cell (j:=1) rfl
   have p1:=HST3.out.rb.cell (j:=1) rfl
   have f1:=HST3.out.rb.free 1
   have q2:=HST3.out.hb.cell (j:=2) rfl
   have p2:=HST3.out.rb.cell (j:=2) rfl
   have f2:=HST3.out.rb.free 2
   have q3:=HST3.out.hb.cell (j:=3) rfl
   have p3:=HST3.out.rb.cell (j:=3) rfl
   have f3:=HST3.out.rb.free 3
   have q4:=HST3.out.hb.cell (j:=4) rfl
   have p4:=HST3.out.rb.cell (j:=4) rfl
   have f4:=HST3.out.rb.free 4
   have q5:=HST3.out.hb.cell (j:=5) rfl
   have p5:=HST3.out.rb.cell (j:=5) rfl
   have f5:=HST3.out.rb.free 5
   have q6:=HST3.out.hb.cell (j:=6) rfl
   have p6:=HST3.out.rb.cell (j:=6) rfl
   have f6:=HST3.out.rb.free 6
   go_wp2_with fail
   (try simp only [Exit.inBlock,Exit.then])
   have hz9:=blk_seven HST3.out.rb (.int .i64 tm) (.int .i64 vo) (.int .i64 ba) (.int .i64 bt) (.slice ar nr cr) (.string sn) (.slice av nv cv)
   have hg9:=grown_seven w3 (w.heap.size+1) (.int .i64 tm) (.int .i64 vo) (.int .i64 ba) (.int .i64 bt) (.slice ar nr cr) (.string sn) (.slice av nv cv)
   have HB9:=Lib.hid (HST3.out.bel.grown hg9 HST3.out.bel.size (fun q e=>by have:=Option.some.inj e; omega))
   refine bodyPost_ret (v:=.tuple #[.agg #[.int .i64 tm,.int .i64 vo,.int .i64 ba,.int .i64 bt,.slice ar nr cr,.string sn,.slice av nv cv],.bool false]) ?_ rfl ?_
   ·exact results_row_tmp (p:=4) (u:=5) rfl _ _ (w.heap.size+1) 42 _ (0,0) _ rfl hz9 Tryz.underlying42 rfl (by kernel_rfl)
   ·exact⟨⟨tm,vo,ba,bt,rs,sn,vs⟩,ar,nr,cr,false,rfl,HB9.out,by rw [HNO.out]; rfl,fun z hz=>by rw [HNO.out] at hz; cases hz⟩
  ·have hb0':=hb0
   have q0:=HST3.out.hb.cell (j:=0) rfl
   have p0:=HST3.out.rb.cell (j:=0) rfl
   have f0:=HST3.out.rb.free 0
   have q1:=HST3.out.hb.cell (j:=1) rfl
   have p1:=HST3.out.rb.cell (j:=1) rfl
   have f1:=HST3.out.rb.free 1
   have q2:=HST3.out.hb.cell (j:=2) rfl
   have p2:=HST3.out.rb.cell (j:=2) rfl
   have f2:=HST3.out.rb.free 2
   have q3:=HST3.out.hb.cell (j:=3) rfl
   have p3:=HST3.out.rb.cell (j:=3) rfl
   have f3:=HST3.out.rb.free 3
   have q4:=HST3.out.hb.cell (j:=4) rfl
   have p4:=HST3.out.rb.cell (j:=4) rfl
   have f4:=HST3.out.rb.free 4
   have q5:=HST3.out.hb.cell (j:=5) rfl
   have p5:=HST3.out.rb.cell (j:=5) rfl
   have f5:=HST3.out.rb.free 5
   have q6:=HST3.out.hb.cell (j:=6) rfl
   have p6:=HST3.out.rb.cell (j:=6) rfl
   have f6:=HST3.out.rb.free 6
   go_wp2_with fail
   (try simp only [Exit.inBlock,Exit.then])
   have hz9:=blk_seven HST3.out.rb (.int .i64 tm) (.int .i64 vo) (.int .i64 ba) (.int .i64 bt) (.slice ar nr cr) (.string sn) (.slice av nv cv)
   have hg9:=grown_seven w3 (w.heap.size+1) (.int .i64 tm) (.int .i64 vo) (.int .i64 ba) (.int .i64 bt) (.slice ar nr cr) (.string sn) (.slice av nv cv)
   have HB9:=Lib.hid (HST3.out.bel.grown hg9 HST3.out.bel.size (fun q e=>by have:=Option.some.inj e; omega))
   refine bodyPost_ret (v:=.tuple #[.agg #[.int .i64 tm,.int .i64 vo,.int .i64 ba,.int .i64 bt,.slice ar nr cr,.string sn,.slice av nv cv],.bool false]) ?_ rfl ?_
   ·exact results_row_tmp (p:=4) (u:=5) rfl _ _ (w.heap.size+1) 42 _ (0,0) _ rfl hz9 Tryz.underlying42 rfl (by kernel_rfl)
   ·exact⟨⟨tm,vo,ba,bt,rs,sn,vs⟩,ar,nr,cr,false,rfl,HB9.out,by rw [HNO.out]; rfl,fun z hz=>by rw [HNO.out] at hz; cases hz⟩
 ·rw [Bool.and_eq_true,decide_eq_true_eq,List.all_eq_true] at hbt
  obtain⟨⟨rfl,h3l⟩,hnm⟩:=hbt
  have v3:=(Lib.cell_of_heap HV3.out 3).trans (show _=some (Value.slice va vl.length vc) from rfl)
  by_cases hb0:bd=0
  ·subst hb0
   by_cases hl4:vl.length=4
   ·obtain⟨g,o,rfl,hSb,hel⟩:=elemsV2 HALL.out (by omega)
    obtain⟨g0,g1,g2,g3,rfl⟩:=list_of4 hl4
    obtain⟨a3,c3,-,r3,e30,e31,e32,e33⟩:=hel 3 (by simp)
    simp only [Nat.reduceMul,Nat.add_assoc,Nat.reduceAdd,List.getElem_cons_succ,List.getElem_cons_zero] at e30 e31 e32 e33 r3
    obtain⟨nb,rfl,hnb0,hnb,hn0,hn1,hn2⟩:=own_three (x:=cl g0.n) (y:=cl g1.n) (z:=cl g2.n) hnums
    have HNB:=Lib.hid (And.intro hnb (And.intro hn0 (And.intro hn1 hn2)))
    change w3.cell? ⟨w1.heap.size,3,none⟩=some (.slice (some ⟨g,o,none⟩) 4 vc) at v3
    have y0:=cell_keep HK3.out e30
    have y1:=cell_keep HK3.out e31
    have y2:=cell_keep HK3.out e32
    have y3:=cell_keep HK3.out e33
    have HNM:Hid (g0.k=1∧g1.k=1∧g2.k=1):=Lib.hid ⟨of_decide_eq_true (hnm g0 (by simp)),of_decide_eq_true (hnm g1 (by simp)),of_decide_eq_true (hnm g2 (by simp))⟩
    have HCNT:Hid (g3.l.length≤4000∧(putL g3).length≤131072):=Lib.hid (by
     have h:=HOK.out rfl
     refine⟨fld_few h.1 3 (by simp) rfl,?_⟩
     exact Nat.le_trans (mem_len (show g3∈[g0,g1,g2,g3] by simp)) (Nat.le_trans (all_len (V.mk 3 vn vt [g0,g1,g2,g3]) rfl) h.2))
    have hcall:=Lib.hid (wreadRecs_any g3.k g3.n g3.s a3 g3.l c3 w3 (fun p=>p<w2.heap.size) (fun p hp=>by omega) (VAll.move (w':=w3) (fun _ h=>by have:=HS2.out; omega) (fun p hp=>HK3.out.block p (by have:=HS2.out; omega)) _ _ _ r3) HCNT.out.1 _ (Lib.hid rfl))
    obtain⟨ok3,hok3⟩:∃ k,k=(decide (g3.k=3)&&g3.l.all recAllB):=⟨_,rfl⟩
    rw [← hok3] at hcall
    have HOK3:=Lib.hid hok3
    have HN0:Hid (w.heap.size+1<nb):=Lib.hid (by have:=HW1.out; have:=HS2.out; omega)
    clear hel hnums hnm hnb hn0 hn1 hn2 hnb0 hl4 h3l HALL hvc hv0 e30 e31 e32 e33 r3 hok3
    go_wp2_with fail
    refine hcall.out.mono ?_
    rintro e w4 ⟨hb4,hcase⟩
    have HST4:=Lib.hid (HST3.out.keep hb4)
    have hn2:=cell_keep hb4 HNB.out.2.2.2
    have h2:=HST4.out.hb.cell (j:=2) rfl
    have HNB4:=Lib.hid (And.intro (cell_keep hb4 HNB.out.2.1) (cell_keep hb4 HNB.out.2.2.1))
    have HHD4:=Lib.hid (HH.out.keep HST4.out.bel)
    clear v3 y0 y1 y2 y3 hcall
    have hwz:IntKind.i64.wrap (cl g2.n - ba)=cl g2.n - ba:=by
     have h1:-1≤cl g2.n∧cl g2.n≤1073741825:=by unfold cl; omega
     have h2:=HLG.out
     rw [IntKind.wrap_i64]; omega
    have HWZ:=Lib.hid hwz
    rcases hcase with ⟨hbf,fa,fn',fc,rfl⟩ | ⟨hbt,ra,rc,rfl,hrec⟩
    ·have HNO:Hid (x=none):=Lib.hid (by
      rw [HX.out,if_neg]
      rintro⟨-,-,-,-,⟨h6,h7⟩,-⟩
      have h:=HOK3.out
      rw [hbf,decide_eq_true (show g3.k=3 from h6),Bool.true_and] at h
      have h8:g3.l.all recAllB=true:=List.all_eq_true.2 (fun y hy=>decide_eq_true (h7 y hy))
      rw [h8] at h
      cases h)
     clear HX HOK HOK3
     go_wp2_with fail
     go_quiet (fail)
     have HST5:=Lib.hid (HST4.out.keep (below_drewN (Below.refl _ w4) nq))
     generalize w4.drewN nq=w5 at *
     have q0:=HST5.out.hb.cell (j:=0) rfl
     have p0:=HST5.out.rb.cell (j:=0) rfl
     have f0:=HST5.out.rb.free 0
     have q1:=HST5.out.hb.cell (j:=1) rfl
     have p1:=HST5.out.rb.cell (j:=1) rfl
     have f1:=HST5.out.rb.free 1
     have q2:=HST5.out.hb.cell (j:=2) rfl
     have p2:=HST5.out.rb.cell (j:=2) rfl
     have f2:=HST5.out.rb.free 2
     have q3:=HST5.out.hb.cell (j:=3) rfl
     have p3:=HST5.out.rb.cell (j:=3) rfl
     have f3:=HST5.out.rb.free 3
     have q4:=HST5.out.hb.cell (j:=4) rfl
     have p4:=HST5.out.rb.cell (j:=4) rfl
     have f4:=HST5.out.rb.free 4
     have q5:=HST5.out.hb.cell (j:=5) rfl
     have p5:=HST5.out.rb.cell (j:=5) rfl
     have f5:=HST5.out.rb.free 5
     have q6:=HST5.out.hb.cell (j:=6) rfl
     have p6:=HST5.out.rb.cell (j:=6) rfl
     have f6:=HST5.out.rb.free 6
     go_wp2_with fail
     (try simp only [Exit.inBlock,Exit.then])
     have hz9:=blk_seven HST5.out.rb (.int .i64 tm) (.int .i64 vo) (.int .i64 ba) (.int .i64 bt) (.slice ar nr cr) (.string sn) (.slice av nv cv)
     have hg9:=grown_seven w5 (w.heap.size+1) (.int .i64 tm) (.int .i64 vo) (.int .i64 ba) (.int .i64 bt) (.slice ar nr cr) (.string sn) (.slice av nv cv)
     have HB9:=Lib.hid (HST5.out.bel.grown hg9 HST5.out.bel.size (fun q e=>by have:=Option.some.inj e; omega))
     refine bodyPost_ret (v:=.tuple #[.agg #[.int .i64 tm,.int .i64 vo,.int .i64 ba,.int .i64 bt,.slice ar nr cr,.string sn,.slice av nv cv],.bool false]) ?_ rfl ?_
     ·exact results_row_tmp (p:=4) (u:=5) rfl _ _ (w.heap.size+1) 42 _ (0,0) _ rfl hz9 Tryz.underlying42 rfl (by kernel_rfl)
     ·exact⟨⟨tm,vo,ba,bt,rs,sn,vs⟩,ar,nr,cr,false,rfl,HB9.out,by rw [HNO.out]; rfl,fun z hz=>by rw [HNO.out] at hz; cases hz⟩
    ·have HRA:Hid (g3.k=3∧g3.l.all recAllB=true):=Lib.hid (by
      have h:=HOK3.out.symm
      rw [hbt,Bool.and_eq_true,decide_eq_true_eq] at h
      exact h)
     have HREC:=Lib.hid hrec
     clear hrec hbt HOK3
     go_wp2_with fail
     go_quiet (fail)
     have hb5:=below_drewN (Below.refl w4.heap.size w4) nq
     have HST5:=Lib.hid (HST4.out.keep hb5)
     have HHD5:=Lib.hid (HHD4.out.keep hb5)
     have HREC5:=Lib.hid (own_under HREC.out hb5)
     have HSZ5:Hid (nb<w3.heap.size∧w3.heap.size≤w4.heap.size∧w4.heap.size≤(w4.drewN nq).heap.size):=Lib.hid ⟨HNB.out.1,hb4.size,hb5.size⟩
     have HNB5:=Lib.hid (And.intro (cell_keep hb5 HNB4.out.1) (cell_keep hb5 HNB4.out.2))
     generalize w4.drewN nq=w5 at *
     obtain⟨kp,hkp⟩:∃ k,k=cl g2.n - ba:=⟨_,rfl⟩
     rw [← hkp]
     have HKP:=Lib.hid hkp
     clear hkp hwz hn2 h2 HST4 HHD4 HREC HNB4 hb5 hb4
     have h4:=HST5.out.hb.cell (j:=4) rfl
     by_cases hkk:0≤kp∧kp≤(nr:Int)
     ·obtain⟨hk1,hk2⟩:=hkk
      obtain⟨k,rfl⟩:=Int.eq_ofNat_of_zero_le hk1
      have hk3:k≤nr:=by omega
      have HK3':=Lib.hid hk3
      clear hk1
      have HCW:Hid (∀ W,Calls Tryz.prog 116 #[.int .i64 (k:Int),.int .i64 0,.int .i64 (nr:Int)] W fun e w'=>e = .returned (.bool true)∧W=w'):=Lib.hid (fun W=>by
       have h:=ww_any (k:Int) 0 (nr:Int) W
       rw [decide_eq_true (Int.natCast_nonneg k),decide_eq_true hk2] at h
       exact h)
      go_upto_region 9 with (go_at_call 116; refine (HCW.out _).mono ?_; rintro e w' ⟨rfl,rfl⟩)
      have n0:=HNB5.out.1
      have n1:=HNB5.out.2
      have q0:=HST5.out.hb.cell (j:=0) rfl
      have q1:=HST5.out.hb.cell (j:=1) rfl
      have f0:=HST5.out.hb.free 0
      have f1:=HST5.out.hb.free 1
      have hne:w.heap.size≠nb:=by have:=HN0.out; omega
      have hne2:nb≠w.heap.size:=by have:=HN0.out; omega
      go_region
      have hgn:w5.grownBy ((w5.setCell ⟨w.heap.size,0,none⟩ (.int .i64 (cl g0.n))).setCell ⟨w.heap.size,1,none⟩ (.int .i64 (cl g1.n))).drew (some w.heap.size):=grown_drewN (grown_trans (grown_setCell _ _ _ _) (grown_setCell _ _ _ _)) 1
      have HST6:Hid (ChSt w ((w5.setCell ⟨w.heap.size,0,none⟩ (.int .i64 (cl g0.n))).setCell ⟨w.heap.size,1,none⟩ (.int .i64 (cl g1.n))).drew [.int .i64 (cl g0.n),.int .i64 (cl g1.n),.int .i64 ba,.int .i64 bt,.slice ar nr cr,.string sn,.slice av nv cv] [.int .i64 0,.int .i64 0,.int .i64 0,.int .i64 0,.slice none 0 0,.string ⟨#[]⟩,.slice none 0 0]):=Lib.hid ⟨HST5.out.bel.grown hgn HST5.out.bel.size (fun q e=>Nat.le_of_eq (Option.some.inj e)),((HST5.out.hb.set 0 _).set 1 _),HST5.out.rb.kept hgn (by simp)⟩
      have HREC6:=Lib.hid (own_kept HREC5.out hgn (by have:=HN0.out; have:=HSZ5.out; omega))
      have HHD6:=Lib.hid (HH.out.keep HST6.out.bel)
      clear hgn n0 n1 q0 q1 f0 f1 hne hne2 h4 HCW HST5 HREC5 HHD5 HNB5
      generalize ((w5.setCell ⟨w.heap.size,0,none⟩ (.int .i64 (cl g0.n))).setCell ⟨w.heap.size,1,none⟩ (.int .i64 (cl g1.n))).drew=w6 at *
      have h4:=HST6.out.hb.cell (j:=4) rfl
      have hsl:=head_recs (a:=ar) (n:=nr) (c:=cr) (k:=k) (by have:=HCAP.out; omega) (fun e=>by
       subst e
       rcases HH.out.recs.2 with h0 | ⟨y,z,h0,-⟩
       ·have:=HNR.out; have:rs=[]:=h0; subst this; simp at *; omega
       ·cases h0)
      have hclone:=Lib.hid (cloneRc_any ar k cr (rs.take k) w6 (HHD6.out.recs.take hk3) (by have:=HLN.out; have:=HNR.out; omega))
      go_wp2_with fail
      refine hclone.out.mono ?_
      rintro e w7 ⟨v7,rfl,ho7,hb7⟩
      have HREC7:=Lib.hid (own_under HREC6.out hb7)
      obtain⟨ra',rc',hve,hvn,hsl7,-,hcp7,hc07⟩:=Enc.own_sl (E:=rcE) HREC7.out
      cases hve
      have HO7:=Lib.hid ho7
      have HB7:=Lib.hid hb7
      have HSL7:Hid (rcE.Sl w7 ra g3.l.length (g3.l.map recCut)):=Lib.hid (by rw [List.length_map] at hsl7; exact hsl7)
      have HC07:=Lib.hid hc07
      obtain⟨i0,hi,hz0,hz1,hz2⟩:=info_parts infoRecord0
      have HI:=Lib.hid hi
      have HZ:=Lib.hid (And.intro hz0 (And.intro hz1 hz2))
      have hlt7:(rs.take k).length≤200:=by rw [List.length_take]; have:=HLN.out; omega
      have hlg3:g3.l.length≤4000:=HCNT.out.1
      clear hclone hsl h4 ho7 hb7 hsl7 hc07 hcp7 hi hz0 hz1 hz2 hvn
      go_wp2_with (at_builtin; refine Enc.wpList_app (E:=rcE) _ rfl _ _ 22 rfl w6.heap.size 67 i0 _ 32 Tryz.underlying22 HI.out HZ.out.1 HZ.out.2.1 HZ.out.2.2 rfl _ (rs.take k).length (rs.take k) HO7.out rfl ra g3.l.length rc (g3.l.map recCut) rfl HSL7.out HC07.out (by unfold maxLen; omega) (by omega) HB7.out.size ?_)
      intro v8 w8 ho8 hg8
      obtain⟨n8,hn8⟩:∃ n,n=min k rs.length+g3.l.length:=⟨_,rfl⟩
      rw [← hn8] at ho8
      have HB8:=Lib.hid (HB7.out.grown hg8 HB7.out.size (fun q e=>(HO7.out.lt q e).1))
      obtain⟨a8,c8,rfl,hnl8,hsl8,hf8,hcp8,-⟩:=Enc.own_sl (E:=rcE) ho8
      have HST8:=Lib.hid (HST6.out.keep HB8.out)
      have HSL8:=Lib.hid hsl8
      have HF8:=Lib.hid hf8
      have HN8:Hid (n8≤100000∧n8≤c8):=Lib.hid ⟨by have h1:(rs.take k).length=min k rs.length:=List.length_take; rw [hn8,← h1]; omega,hcp8⟩
      have HS6:Hid (w.heap.size+1<w6.heap.size):=Lib.hid (lt_of_block HST6.out.rb)
      have q4:=HST8.out.hb.cell (j:=4) rfl
      have f4:=HST8.out.hb.free 4
      clear ho8 hg8 hn8 hsl8 hf8 hcp8 hnl8 hlt7 hlg3 HO7 HSL7 HC07 HREC7 HREC6 HB7 HI HZ
      go_upto_region 11 with fail
      have hg9:w8.grownBy (w8.setCell ⟨w.heap.size,4,none⟩ (.slice a8 n8 c8)) (some w.heap.size):=grown_setCell _ _ _ _
      have HST9:Hid (ChSt w (w8.setCell ⟨w.heap.size,4,none⟩ (.slice a8 n8 c8)) [.int .i64 (cl g0.n),.int .i64 (cl g1.n),.int .i64 ba,.int .i64 bt,.slice a8 n8 c8,.string sn,.slice av nv cv] [.int .i64 0,.int .i64 0,.int .i64 0,.int .i64 0,.slice none 0 0,.string ⟨#[]⟩,.slice none 0 0]):=Lib.hid ⟨HST8.out.bel.grown hg9 HST8.out.bel.size (fun q e=>Nat.le_of_eq (Option.some.inj e)),HST8.out.hb.set 4 _,HST8.out.rb.kept hg9 (by simp)⟩
      have hsl9:rcE.Sl (w8.setCell ⟨w.heap.size,4,none⟩ (.slice a8 n8 c8)) a8 n8 (rs.take k++g3.l.map recCut):=HSL8.out.kept hg9 (fun q e=>by
       cases a8 with
       | none=>cases e
       | some y =>
         have h1:=HF8.out y rfl
         have h2:=HS6.out
         simp at e ⊢
         omega)
      have HHD9:Hid (HdAt (w8.setCell ⟨w.heap.size,4,none⟩ (.slice a8 n8 c8)) (⟨cl g0.n,cl g1.n,ba,bt,rs.take k++g3.l.map recCut,sn,vs⟩:Hd) a8 n8 c8 av nv cv):=Lib.hid {
       recs:=hsl9
       voters:=HH.out.voters.keep HST9.out.bel
       cap:=HN8.out.2
       nr:=by have:=HN8.out.1; omega
       nv:=HH.out.nv
       data:=by
        intro r hr
        rcases List.mem_append.1 hr with hr | hr
        ·exact HH.out.data r (List.mem_of_mem_take hr)
        ·obtain⟨y,hy,rfl⟩:=List.mem_map.1 hr
         have hn:=of_decide_eq_true (List.all_eq_true.1 HRA.out.2 y hy)
         have h1:=txt_len (fld y 2) hn.2.2.2.2
         have h2:=mem_len (fld_mem (v:=y) (i:=2) (by rw [hn.2.1]; decide))
         have h3:=all_len y hn.1
         have h4:=mem_len hy
         have h5:=all_len g3 HRA.out.1
         have h6:=HCNT.out.2
         have hsz:(fld y 2).s.size≤140737488355328:=by omega
         exact⟨hsz,cl63 _,cl63 _⟩
       snap:=HH.out.snap
       nums:=⟨cl63 _,cl63 _,HH.out.nums.2.2.1,HH.out.nums.2.2.2⟩
       vots:=HH.out.vots }
      have HFR:Hid (∀ y,a8=some y→w.heap.size+1<y.block):=Lib.hid (fun y e=>by have h1:=HF8.out y e; have h2:=HS6.out; omega)
      clear q4 f4 hg9 hsl9 HSL8 HST8 HF8 HB8 HST6 HHD6
      generalize w8.setCell ⟨w.heap.size,4,none⟩ (.slice a8 n8 c8)=w9 at *
      obtain⟨rt,hrt⟩:∃ r,r=rightH (⟨cl g0.n,cl g1.n,ba,bt,rs.take k++g3.l.map recCut,sn,vs⟩:Hd):=⟨_,rfl⟩
      have HRT:Hid (∀ W,Below w9.heap.size w9 W→Calls Tryz.prog 23 #[.agg #[.int .i64 (cl g0.n),.int .i64 (cl g1.n),.int .i64 ba,.int .i64 bt,.slice a8 n8 c8,.string sn,.slice av nv cv]] W fun e w'=>e = .returned (.bool rt)∧Below W.heap.size W w'):=Lib.hid (fun W hW=>wright_any (⟨cl g0.n,cl g1.n,ba,bt,rs.take k++g3.l.map recCut,sn,vs⟩:Hd) a8 n8 c8 av nv cv W (HHD9.out.keep hW) (HT.out _ (below_then HST9.out.bel hW HST9.out.bel.size)) rt (Lib.hid hrt))
      have HXX:Hid (x=if rt=true then some (⟨cl g0.n,cl g1.n,ba,bt,rs.take k++g3.l.map recCut,sn,vs⟩:Hd) else none):=Lib.hid (by
       rw [HX.out]
       have hch:changeH ⟨tm,vo,ba,bt,rs,sn,vs⟩ (V.mk 3 vn vt [g0,g1,g2,g3])=(⟨cl g0.n,cl g1.n,ba,bt,rs.take k++g3.l.map recCut,sn,vs⟩:Hd):=by
        unfold changeH
        show (⟨cl g0.n,cl g1.n,ba,bt,rs.take (cl g2.n - ba).toNat++g3.l.map recCut,sn,vs⟩:Hd)=_
        rw [← HKP.out]
        simp
       by_cases hq:rt=true
       ·rw [if_pos hq,if_pos,hch]
        refine⟨by trivial,rfl,rfl,HNM.out,⟨HRA.out.1,fun y hy=>of_decide_eq_true (List.all_eq_true.1 HRA.out.2 y hy)⟩,⟨?_,?_⟩,?_⟩
        ·show 0≤cl g2.n - ba
         have:=HKP.out; omega
        ·show cl g2.n - ba≤(rs.length:Int)
         have:=HKP.out; have:=HNR.out; omega
        ·rw [hch,← hrt]; exact hq
       ·rw [if_neg hq,if_neg]
        rintro⟨-,-,-,-,-,-,h9⟩
        rw [hch,← hrt] at h9
        exact hq h9)
      clear HX HOK HNM HRA HCNT hrt HKP HWZ HLG
      refine wp_region_tail (regOf Tryz.f119 11) [some 83,some 84,some 85] 3 (chgT w.heap.size (cl g0.n) (cl g1.n) ba bt a8 n8 c8 sn av nv cv rt w9) (fun w'=>Below w9.heap.size w9 w') chgD (by kernel_rfl) (by kernel_rfl) (by kernel_rfl) (by kernel_rfl) (by kernel_rfl) (by kernel_rfl) (by kernel_rfl) ((Below.refl _ _).drew)
       (chg_steps w.heap.size (cl g0.n) (cl g1.n) ba bt a8 n8 c8 sn av nv cv rt w9 HST9.out.hb HRT.out (by kernel_rfl) (by kernel_rfl)) ?_
      intro vs w10 hn hCw10 hT
      replace hn:vs.length=3:=hn
      obtain⟨v0,vs1,rfl,hn1⟩:=len_cons hn
      obtain⟨v1,vs2,rfl,hn2⟩:=len_cons hn1
      obtain⟨v2,vs3,rfl,hn3⟩:=len_cons hn2
      obtain rfl:=List.eq_nil_of_length_eq_zero hn3
      clear hn hn1 hn2 hn3
      obtain rfl:v0 = .agg #[.int .i64 (cl g0.n),.int .i64 (cl g1.n),.int .i64 ba,.int .i64 bt,.slice a8 n8 c8,.string sn,.slice av nv cv]:=hT 0 v0 rfl (by kernel_rfl)
      obtain rfl:v1 = .agg #[.int .i64 (cl g0.n),.int .i64 (cl g1.n),.int .i64 ba,.int .i64 bt,.slice a8 n8 c8,.string sn,.slice av nv cv]:=hT 1 v1 rfl (by kernel_rfl)
      obtain rfl:v2 = .bool rt:=hT 2 v2 rfl (by kernel_rfl)
      clear hT
      obtain⟨o3,ho3⟩:∃ o,(regOf Tryz.f119 11)[3]? = some o:=⟨_,Array.getElem?_eq_getElem (show 3<(regOf Tryz.f119 11).size from (show (regOf Tryz.f119 11).size=5 by kernel_rfl) ▸ by decide)⟩
      have op3:=opIs ho3 (p:=.store 42 (.tmp 4) (.tmp 83)) (by kernel_rfl)
      have gd3:=guardIs ho3 (p:=none) (by kernel_rfl)
      have dt3:o3.dst=none:=by have:=(show ((regOf Tryz.f119 11)[3]?).map (·.dst)=some (none) by kernel_rfl); rw [ho3] at this; simpa using this
      obtain⟨o4,ho4⟩:∃ o,(regOf Tryz.f119 11)[4]? = some o:=⟨_,Array.getElem?_eq_getElem (show 4<(regOf Tryz.f119 11).size from (show (regOf Tryz.f119 11).size=5 by kernel_rfl) ▸ by decide)⟩
      have op4:=opIs ho4 (p:=.assign (.tmp 85)) (by kernel_rfl)
      have gd4:=guardIs ho4 (p:=none) (by kernel_rfl)
      have dt4:o4.dst=some 5:=by have:=(show ((regOf Tryz.f119 11)[4]?).map (·.dst)=some (some 5) by kernel_rfl); rw [ho4] at this; simpa using this
      rw [show (regOf Tryz.f119 11).toList.drop 3=[o3,o4] from drop_tail (by kernel_rfl) ho3 ho4]
      simp only [puts,Act.put,List.setIfInBounds_toArray,List.set_cons_succ,List.set_cons_zero]
      have HST10:=Lib.hid (HST9.out.keep hCw10)
      have HHD10:=Lib.hid (HHD9.out.keep hCw10)
      have q0:=HST10.out.rb.cell (j:=0) rfl
      have f0:=HST10.out.rb.free 0
      have q1:=HST10.out.rb.cell (j:=1) rfl
      have f1:=HST10.out.rb.free 1
      have q2:=HST10.out.rb.cell (j:=2) rfl
      have f2:=HST10.out.rb.free 2
      have q3:=HST10.out.rb.cell (j:=3) rfl
      have f3:=HST10.out.rb.free 3
      have q4:=HST10.out.rb.cell (j:=4) rfl
      have f4:=HST10.out.rb.free 4
      have q5:=HST10.out.rb.cell (j:=5) rfl
      have f5:=HST10.out.rb.free 5
      have q6:=HST10.out.rb.cell (j:=6) rfl
      have f6:=HST10.out.rb.free 6
      unfold tailWp
      intro K3 hK3
      refine wpList_plain gd3 fun K4 hK4=>?_
      refine wp_skipO (w':=(((((((w10.setCell ⟨w.heap.size+1,0,none⟩ (.int .i64 (cl g0.n))).setCell ⟨w.heap.size+1,1,none⟩ (.int .i64 (cl g1.n))).setCell ⟨w.heap.size+1,2,none⟩ (.int .i64 ba)).setCell ⟨w.heap.size+1,3,none⟩ (.int .i64 bt)).setCell ⟨w.heap.size+1,4,none⟩ (.slice a8 n8 c8)).setCell ⟨w.heap.size+1,5,none⟩ (.string sn)).setCell ⟨w.heap.size+1,6,none⟩ (.slice av nv cv))) ?_ ?_
      ·unfold execOp
       simp only [op3]
       simp [go_sem,q0,q1,q2,q3,q4,q5,q6,f0,f1,f2,f3,f4,f5,f6]
      rw [dt3] at hK3 ⊢
      refine hK4 _ _ (hK3 _ _ ?_)
      clear hK3 hK4
      intro K5 hK5
      refine wpList_plain gd4 fun K6 hK6=>?_
      unfold Oper.wp
      rw [run_assign (v:=.bool rt) op4 rfl]
      simp only [Oper.upon]
      rw [dt4] at hK5 ⊢
      refine hK6 _ _ (hK5 _ _ ?_)
      clear hK5 hK6
      unfold tailWp
      simp only [Act.put,List.setIfInBounds_toArray,List.set_cons_succ,List.set_cons_zero]
      go_wp2_with fail
      (try simp only [Exit.inBlock,Exit.then])
      have hz9:=blk_seven HST10.out.rb (.int .i64 (cl g0.n)) (.int .i64 (cl g1.n)) (.int .i64 ba) (.int .i64 bt) (.slice a8 n8 c8) (.string sn) (.slice av nv cv)
      have hg9:=grown_seven w10 (w.heap.size+1) (.int .i64 (cl g0.n)) (.int .i64 (cl g1.n)) (.int .i64 ba) (.int .i64 bt) (.slice a8 n8 c8) (.string sn) (.slice av nv cv)
      have HB9:=Lib.hid (HST10.out.bel.grown hg9 HST10.out.bel.size (fun q e=>by have:=Option.some.inj e; omega))
      refine bodyPost_ret (v:=.tuple #[.agg #[.int .i64 (cl g0.n),.int .i64 (cl g1.n),.int .i64 ba,.int .i64 bt,.slice a8 n8 c8,.string sn,.slice av nv cv],.bool rt]) ?_ rfl ?_
      ·exact results_row_tmp (p:=4) (u:=5) rfl _ _ (w.heap.size+1) 42 _ (0,0) _ rfl hz9 Tryz.underlying42 rfl (by kernel_rfl)
      ·refine⟨(⟨cl g0.n,cl g1.n,ba,bt,rs.take k++g3.l.map recCut,sn,vs⟩:Hd),a8,n8,c8,rt,rfl,HB9.out,?_,fun z hz=>?_⟩
       ·rw [HXX.out]; cases rt <;> rfl
       ·rw [HXX.out] at hz
        cases rt with
        | false=>cases hz
        | true =>
          cases hz
          exact⟨rfl,{ HHD10.out with
           recs:=HHD10.out.recs.kept hg9 (fun q e=>by
            cases a8 with
            | none=>cases e
            | some y =>
              have h1:=HFR.out y rfl
              simp at e ⊢
              omega)
           voters:=HH.out.voters.keep HB9.out },fun q e=>by have:=HFR.out q e; omega⟩
     ·have HNO:Hid (x=none):=Lib.hid (by
       rw [HX.out,if_neg]
       rintro⟨-,-,-,-,-,⟨h6,h7⟩,-⟩
       have h6:0≤cl g2.n - ba:=h6
       have h7:cl g2.n - ba≤(rs.length:Int):=h7
       have:=HNR.out
       have:=HKP.out
       omega)
      clear HX HOK
      have hkf:(decide (0≤kp)&&decide (kp≤(nr:Int)))=false:=by
       rw [Bool.and_eq_false_iff,decide_eq_false_iff_not,decide_eq_false_iff_not]; omega
      have HCW:Hid (∀ W,Calls Tryz.prog 116 #[.int .i64 kp,.int .i64 0,.int .i64 (nr:Int)] W fun e w'=>e = .returned (.bool false)∧W=w'):=Lib.hid (fun W=>by
       have h:=ww_any kp 0 (nr:Int) W
       rw [hkf] at h
       exact h)
      clear hkk hkf
      have q0:=HST5.out.hb.cell (j:=0) rfl
      have p0:=HST5.out.rb.cell (j:=0) rfl
      have f0:=HST5.out.rb.free 0
      have q1:=HST5.out.hb.cell (j:=1) rfl
      have p1:=HST5.out.rb.cell (j:=1) rfl
      have f1:=HST5.out.rb.free 1
      have q2:=HST5.out.hb.cell (j:=2) rfl
      have p2:=HST5.out.rb.cell (j:=2) rfl
      have f2:=HST5.out.rb.free 2
      have q3:=HST5.out.hb.cell (j:=3) rfl
      have p3:=HST5.out.rb.cell (j:=3) rfl
      have f3:=HST5.out.rb.free 3
      have q4:=HST5.out.hb.cell (j:=4) rfl
      have p4:=HST5.out.rb.cell (j:=4) rfl
      have f4:=HST5.out.rb.free 4
      have q5:=HST5.out.hb.cell (j:=5) rfl
      have p5:=HST5.out.rb.cell (j:=5) rfl
      have f5:=HST5.out.rb.free 5
      have q6:=HST5.out.hb.cell (j:=6) rfl
      have p6:=HST5.out.rb.cell (j:=6) rfl
      have f6:=HST5.out.rb.free 6
      go_wp2_with (go_at_call 116; refine (HCW.out _).mono ?_; rintro e w' ⟨rfl,rfl⟩)
      (try simp only [Exit.inBlock,Exit.then])
      have hz9:=blk_seven HST5.out.rb (.int .i64 tm) (.int .i64 vo) (.int .i64 ba) (.int .i64 bt) (.slice ar nr cr) (.string sn) (.slice av nv cv)
      have hg9:=grown_seven w5 (w.heap.size+1) (.int .i64 tm) (.int .i64 vo) (.int .i64 ba) (.int .i64 bt) (.slice ar nr cr) (.string sn) (.slice av nv cv)
      have HB9:=Lib.hid (HST5.out.bel.grown hg9 HST5.out.bel.size (fun q e=>by have:=Option.some.inj e; omega))
      refine bodyPost_ret (v:=.tuple #[.agg #[.int .i64 tm,.int .i64 vo,.int .i64 ba,.int .i64 bt,.slice ar nr cr,.string sn,.slice av nv cv],.bool false]) ?_ rfl ?_
      ·exact results_row_tmp (p:=4) (u:=5) rfl _ _ (w.heap.size+1) 42 _ (0,0) _ rfl hz9 Tryz.underlying42 rfl (by kernel_rfl)
      ·exact⟨⟨tm,vo,ba,bt,rs,sn,vs⟩,ar,nr,cr,false,rfl,HB9.out,by rw [HNO.out]; rfl,fun z hz=>by rw [HNO.out] at hz; cases hz⟩
   ·have HNO:Hid (x=none):=Lib.hid (by
     rw [HX.out,if_neg]
     rintro⟨-,-,h2,-⟩
     exact hl4 h2)
    clear HX HOK
    have q0:=HST3.out.hb.cell (j:=0) rfl
    have p0:=HST3.out.rb.cell (j:=0) rfl
    have f0:=HST3.out.rb.free 0
    have q1:=HST3.out.hb.cell (j:=1) rfl
    have p1:=HST3.out.rb.cell (j:=1) rfl
    have f1:=HST3.out.rb.free 1
    have q2:=HST3.out.hb.cell (j:=2) rfl
    have p2:=HST3.out.rb.cell (j:=2) rfl
    have f2:=HST3.out.rb.free 2
    have q3:=HST3.out.hb.cell (j:=3) rfl
    have p3:=HST3.out.rb.cell (j:=3) rfl
    have f3:=HST3.out.rb.free 3
    have q4:=HST3.out.hb.cell (j:=4) rfl
    have p4:=HST3.out.rb.cell (j:=4) rfl
    have f4:=HST3.out.rb.free 4
    have q5:=HST3.out.hb.cell (j:=5) rfl
    have p5:=HST3.out.rb.cell (j:=5) rfl
    have f5:=HST3.out.rb.free 5
    have q6:=HST3.out.hb.cell (j:=6) rfl
    have p6:=HST3.out.rb.cell (j:=6) rfl
    have f6:=HST3.out.rb.free 6
    go_wp2_with fail
    (try simp only [Exit.inBlock,Exit.then])
    have hz9:=blk_seven HST3.out.rb (.int .i64 tm) (.int .i64 vo) (.int .i64 ba) (.int .i64 bt) (.slice ar nr cr) (.string sn) (.slice av nv cv)
    have hg9:=grown_seven w3 (w.heap.size+1) (.int .i64 tm) (.int .i64 vo) (.int .i64 ba) (.int .i64 bt) (.slice ar nr cr) (.string sn) (.slice av nv cv)
    have HB9:=Lib.hid (HST3.out.bel.grown hg9 HST3.out.bel.size (fun q e=>by have:=Option.some.inj e; omega))
    refine bodyPost_ret (v:=.tuple #[.agg #[.int .i64 tm,.int .i64 vo,.int .i64 ba,.int .i64 bt,.slice ar nr cr,.string sn,.slice av nv cv],.bool false]) ?_ rfl ?_
    ·exact results_row_tmp (p:=4) (u:=5) rfl _ _ (w.heap.size+1) 42 _ (0,0) _ rfl hz9 Tryz.underlying42 rfl (by kernel_rfl)
    ·exact⟨⟨tm,vo,ba,bt,rs,sn,vs⟩,ar,nr,cr,false,rfl,HB9.out,by rw [HNO.out]; rfl,fun z hz=>by rw [HNO.out] at hz; cases hz⟩
  ·have HNO:Hid (x=none):=Lib.hid (by
    rw [HX.out,if_neg]
    rintro⟨h2,-⟩
    exact hb0 h2)
   clear HX HOK
   have q0:=HST3.out.hb.cell (j:=0) rfl
   have p0:=HST3.out.rb.cell (j:=0) rfl
   have f0:=HST3.out.rb.free 0
   have q1:=HST3.out.hb.cell (j:=1) rfl
   have p1:=HST3.out.rb.cell (j:=1) rfl
   have f1:=HST3.out.rb.free 1
   have q2:=HST3.out.hb.cell (j:=2) rfl
   have p2:=HST3.out.rb.cell (j:=2) rfl
   have f2:=HST3.out.rb.free 2
   have q3:=HST3.out.hb.cell (j:=3) rfl
   have p3:=HST3.out.rb.cell (j:=3) rfl
   have f3:=HST3.out.rb.free 3
   have q4:=HST3.out.hb.cell (j:=4) rfl
   have p4:=HST3.out.rb.cell (j:=4) rfl
   have f4:=HST3.out.rb.free 4
   have q5:=HST3.out.hb.cell (j:=5) rfl
   have p5:=HST3.out.rb.cell (j:=5) rfl
   have f5:=HST3.out.rb.free 5
   have q6:=HST3.out.hb.cell (j:=6) rfl
   have p6:=HST3.out.rb.cell (j:=6) rfl
   have f6:=HST3.out.rb.free 6
   go_wp2_with fail
   (try simp only [Exit.inBlock,Exit.then])
   have hz9:=blk_seven HST3.out.rb (.int .i64 tm) (.int .i64 vo) (.int .i64 ba) (.int .i64 bt) (.slice ar nr cr) (.string sn) (.slice av nv cv)
   have hg9:=grown_seven w3 (w.heap.size+1) (.int .i64 tm) (.int .i64 vo) (.int .i64 ba) (.int .i64 bt) (.slice ar nr cr) (.string sn) (.slice av nv cv)
   have HB9:=Lib.hid (HST3.out.bel.grown hg9 HST3.out.bel.size (fun q e=>by have:=Option.some.inj e; omega))
   refine bodyPost_ret (v:=.tuple #[.agg #[.int .i64 tm,.int .i64 vo,.int .i64 ba,.int .i64 bt,.slice ar nr cr,.string sn,.slice av nv cv],.bool false]) ?_ rfl ?_
   ·exact results_row_tmp (p:=4) (u:=5) rfl _ _ (w.heap.size+1) 42 _ (0,0) _ rfl hz9 Tryz.underlying42 rfl (by kernel_rfl)
   ·exact⟨⟨tm,vo,ba,bt,rs,sn,vs⟩,ar,nr,cr,false,rfl,HB9.out,by rw [HNO.out]; rfl,fun z hz=>by rw [HNO.out] at hz; cases hz⟩
end Go.Proofs.YtlpgbmaoenncjaaGreatDoor

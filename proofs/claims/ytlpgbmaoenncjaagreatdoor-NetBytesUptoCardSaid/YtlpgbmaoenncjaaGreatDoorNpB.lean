/-
  The walk of net.Put: the bytes of any message, or why it is refused; the slices within reach. (Written by wip/mknp2.py.)
-/
import Derived.Test.YtlpgbmaoenncjaaGreatDoorNpA
import Derived.Test.YtlpgbmaoenncjaaGreatDoorNpN
import Derived.Test.YtlpgbmaoenncjaaGreatDoorPvs
import Derived.Test.YtlpgbmaoenncjaaGreatDoorNmG
namespace Go.Proofs.YtlpgbmaoenncjaaGreatDoor
open Go.RowKit
set_option linter.unusedVariables false
def nums8 (kd fr ds tm ok ix lt cm:Int):List V:=[numV kd,numV fr,numV ds,numV tm,numV ok,numV ix,numV lt,numV cm]
def upto8 (k:Nat):Nat:=if k≤4 then k else k+1
theorem four_keep {w w':World}{b:Nat}{t:TypeId}{v0 v1 v2 v3:Value}(h:Four w b t v0 v1 v2 v3) (hb:Below w.heap.size w w'):Four w' b t v0 v1 v2 v3:=(hb.block _ (lt_of_block h)).trans h
theorem wpList_appB {P:Program}{w:World}{ops:Array Oper}{rest:List Oper}{o:Oper}{a:Act}{Q:Exit→Act→World→Prop}(hgd:o.guard=none) (s x:Operand) (t:TypeId)
 (ho:o.op = .call { callee:=.builtin .append,args:=#[s,x],argTypes:=#[t,t] }) (v u:Value) (hs:a.eval s=v) (hx:a.eval x=u) (v':Value) (w':World)
 (hr:(Builtin.append_ #[t,t] o.type #[v,u]).run P w = .ok v' w') (h:wpList P ops Q rest (a.put o.dst v') w'):wpList P ops Q (o :: rest) a w:=by
 refine wpList_plain hgd fun K hK=>?_
 unfold Oper.wp execOp
 simp only [ho,resolve,invoke,builtin,Sem.run_bind,Sem.run_pure,Result.andThen_ok,List.map_toArray,List.map_cons,List.map_nil,hs,hx,hr]
 exact hK _ _ h
set_option maxRecDepth 100000 in
set_option maxHeartbeats 1000000 in
theorem nput_bad (kd fr ds tm ix lt cm:Int) (ok:Bool) (rs:List Rc) (sn:ByteArray) (vs:List Int) (ar:Option Addr) (nr cr:Nat) (av:Option Addr) (nv cv:Nat) (w:World) (h:MsAt w ⟨kd,fr,ds,tm,ok,ix,lt,rs,cm,sn,vs⟩ ar nr cr av nv cv) (hm:mayM ⟨kd,fr,ds,tm,ok,ix,lt,rs,cm,sn,vs⟩=false) :
 Calls Tryz.prog 10 #[.agg #[.int .i64 kd,.int .i64 fr,.int .i64 ds,.int .i64 tm,.bool ok,.int .i64 ix,.int .i64 lt,.slice ar nr cr,.int .i64 cm,.string sn,.slice av nv cv]] w (fun e w'=>e = .returned (.tuple #[.string ⟨#[]⟩,.int .i64 1])∧Below w.heap.size w w'):=by
 have HB0:=Lib.hid ((Below.refl w.heap.size w).alloc (Nat.le_refl _) (.cells #[.int .i64 kd,.int .i64 fr,.int .i64 ds,.int .i64 tm,.bool ok,.int .i64 ix,.int .i64 lt,.slice ar nr cr,.int .i64 cm,.string sn,.slice av nv cv] 25))
 have HK0:Hid (Blk (w.alloc (.cells #[.int .i64 kd,.int .i64 fr,.int .i64 ds,.int .i64 tm,.bool ok,.int .i64 ix,.int .i64 lt,.slice ar nr cr,.int .i64 cm,.string sn,.slice av nv cv] 25)) w.heap.size 25 [.int .i64 kd,.int .i64 fr,.int .i64 ds,.int .i64 tm,.bool ok,.int .i64 ix,.int .i64 lt,.slice ar nr cr,.int .i64 cm,.string sn,.slice av nv cv]):=Lib.hid (heap_alloc_new w _)
 have HMAY:=Lib.hid (show Calls Tryz.prog 32 #[.agg #[.int .i64 kd,.int .i64 fr,.int .i64 ds,.int .i64 tm,.bool ok,.int .i64 ix,.int .i64 lt,.slice ar nr cr,.int .i64 cm,.string sn,.slice av nv cv]] (w.alloc (.cells #[.int .i64 kd,.int .i64 fr,.int .i64 ds,.int .i64 tm,.bool ok,.int .i64 ix,.int .i64 lt,.slice ar nr cr,.int .i64 cm,.string sn,.slice av nv cv] 25)) _ from eMay_any ⟨kd,fr,ds,tm,ok,ix,lt,rs,cm,sn,vs⟩ ar nr cr av nv cv _ (h.keep HB0.out) false (Lib.hid hm.symm))
 clear h hm
 have x0:=HK0.out.cell (j:=0) rfl
 have x1:=HK0.out.cell (j:=1) rfl
 have x2:=HK0.out.cell (j:=2) rfl
 have x3:=HK0.out.cell (j:=3) rfl
 have x4:=HK0.out.cell (j:=4) rfl
 have x5:=HK0.out.cell (j:=5) rfl
 have x6:=HK0.out.cell (j:=6) rfl
 have x7:=HK0.out.cell (j:=7) rfl
 have x8:=HK0.out.cell (j:=8) rfl
 have x9:=HK0.out.cell (j:=9) rfl
 have x10:=HK0.out.cell (j:=10) rfl
 go_enter Tryz.func10,Tryz.ntmps10
 go_wp2_with fail
 refine HMAY.out.mono ?_
 rintro e w1 ⟨rfl,hb1⟩
 have HB1:=Lib.hid (below_then HB0.out hb1 HB0.out.size)
 clear hb1 x0 x1 x2 x3 x4 x5 x6 x7 x8 x9 x10
 dsimp only
 go_wp2_with fail
 go_ret2
 exact⟨rfl,HB1.out⟩
set_option maxRecDepth 100000 in
set_option maxHeartbeats 4000000 in
theorem nput_may (kd fr ds tm ix lt cm:Int) (ok:Bool) (rs:List Rc) (sn:ByteArray) (vs:List Int) (ar:Option Addr) (nr cr:Nat) (av:Option Addr) (nv cv:Nat) (w:World) (h:MsAt w ⟨kd,fr,ds,tm,ok,ix,lt,rs,cm,sn,vs⟩ ar nr cr av nv cv)
 (htab:Lib.TabIs Tryz.prog w "internal/strconv.uint64pow10" .u64 Lib.pow10Tab) (hm:mayM ⟨kd,fr,ds,tm,ok,ix,lt,rs,cm,sn,vs⟩=true) (g:ByteArray × Int) (hg:Hid (g=putGot (msV ⟨kd,fr,ds,tm,ok,ix,lt,rs,cm,sn,vs⟩))) :
 Calls Tryz.prog 10 #[.agg #[.int .i64 kd,.int .i64 fr,.int .i64 ds,.int .i64 tm,.bool ok,.int .i64 ix,.int .i64 lt,.slice ar nr cr,.int .i64 cm,.string sn,.slice av nv cv]] w (fun e w'=>e = .returned (.tuple #[.string g.1,.int .i64 g.2])∧Below w.heap.size w w'):=by
 have HB0:=Lib.hid ((Below.refl w.heap.size w).alloc (Nat.le_refl _) (.cells #[.int .i64 kd,.int .i64 fr,.int .i64 ds,.int .i64 tm,.bool ok,.int .i64 ix,.int .i64 lt,.slice ar nr cr,.int .i64 cm,.string sn,.slice av nv cv] 25))
 have HK0:Hid (Blk (w.alloc (.cells #[.int .i64 kd,.int .i64 fr,.int .i64 ds,.int .i64 tm,.bool ok,.int .i64 ix,.int .i64 lt,.slice ar nr cr,.int .i64 cm,.string sn,.slice av nv cv] 25)) w.heap.size 25 [.int .i64 kd,.int .i64 fr,.int .i64 ds,.int .i64 tm,.bool ok,.int .i64 ix,.int .i64 lt,.slice ar nr cr,.int .i64 cm,.string sn,.slice av nv cv]):=Lib.hid (heap_alloc_new w _)
 have HMAY:=Lib.hid (show Calls Tryz.prog 32 #[.agg #[.int .i64 kd,.int .i64 fr,.int .i64 ds,.int .i64 tm,.bool ok,.int .i64 ix,.int .i64 lt,.slice ar nr cr,.int .i64 cm,.string sn,.slice av nv cv]] (w.alloc (.cells #[.int .i64 kd,.int .i64 fr,.int .i64 ds,.int .i64 tm,.bool ok,.int .i64 ix,.int .i64 lt,.slice ar nr cr,.int .i64 cm,.string sn,.slice av nv cv] 25)) _ from eMay_any ⟨kd,fr,ds,tm,ok,ix,lt,rs,cm,sn,vs⟩ ar nr cr av nv cv _ (h.keep HB0.out) true (Lib.hid hm.symm))
 have HT:=Lib.hid (Lib.tabBelow_of_tabIs htab)
 have H:=Lib.hid h
 have HSM:=Lib.hid (And.intro (msV_small hm) (msV_inR hm))
 have HFEW:=Lib.hid (may_few hm)
 have HN:=Lib.hid h.rlen
 have HNV:=Lib.hid h.vlen
 have hb2':=h.nv
 have hb1':=h.nr
 dsimp only at HN HNV
 clear h hm htab
 have x0:=HK0.out.cell (j:=0) rfl
 have x1:=HK0.out.cell (j:=1) rfl
 have x2:=HK0.out.cell (j:=2) rfl
 have x3:=HK0.out.cell (j:=3) rfl
 have x4:=HK0.out.cell (j:=4) rfl
 have x5:=HK0.out.cell (j:=5) rfl
 have x6:=HK0.out.cell (j:=6) rfl
 have x7:=HK0.out.cell (j:=7) rfl
 have x8:=HK0.out.cell (j:=8) rfl
 have x9:=HK0.out.cell (j:=9) rfl
 have x10:=HK0.out.cell (j:=10) rfl
 go_enter Tryz.func10,Tryz.ntmps10
 go_wp2_with fail
 refine HMAY.out.mono ?_
 rintro e w1 ⟨rfl,hb1⟩
 have HB1:=Lib.hid (below_then HB0.out hb1 HB0.out.size)
 have HK1:=Lib.hid (HK0.out.keep hb1)
 clear hb1 x0 x1 x2 x3 x4 x5 x6 x7 x8 x9 x10 HMAY HB0 HK0
 dsimp only
 go_wp2_with fail
 refine (nlist_any none 0 0 w1).mono ?_
 rintro e w2 ⟨rfl,hb2⟩
 dsimp only
 have HB2:=Lib.hid (below_then HB1.out hb2 HB1.out.size)
 have HK2:=Lib.hid (HK1.out.keep hb2)
 have HB3:=Lib.hid (HB2.out.alloc HB2.out.size (.cells #[.int .i64 3,.int .i64 0,.string ⟨#[]⟩,.slice none 0 0] 70))
 have HF3:Hid (Four (w2.alloc (.cells #[.int .i64 3,.int .i64 0,.string ⟨#[]⟩,.slice none 0 0] 70)) w2.heap.size 70 (.int .i64 3) (.int .i64 0) (.string ⟨#[]⟩) (.slice none 0 0)):=Lib.hid (Four.new w2 _ _ _ _ _)
 have HK3:=Lib.hid (HK2.out.alloc (.cells #[.int .i64 3,.int .i64 0,.string ⟨#[]⟩,.slice none 0 0] 70))
 have HS3:Hid ((w2.alloc (.cells #[.int .i64 3,.int .i64 0,.string ⟨#[]⟩,.slice none 0 0] 70)).heap.size=w2.heap.size+1):=Lib.hid (by simp)
 have hlt0:=HK2.out.lt
 have hle0:=HB2.out.size
 clear hb2 HB1 HK1 HK2
 go_wp2_with fail
 refine (nnumbers_any w.heap.size _).mono ?_
 rintro e w4 ⟨rfl,hb4⟩
 dsimp only
 have HB4:=Lib.hid (below_then HB3.out hb4 HB3.out.size)
 have HK4:=Lib.hid (HK3.out.keep hb4)
 have HM4:Hid (MakingB w4.heap.size w2.heap.size [] none 0 [] w4):=Lib.hid (MakingB.start _ _ _ (by have:=hb4.size; have:=HS3.out; omega) (Nat.le_refl _) (four_keep HF3.out hb4))
 have hs4:w2.heap.size<w4.heap.size:=HM4.out.lt
 clear hb4 HB3 HF3 HK3 HS3
 go_wp2_with fail
 go_loopg [19] 7 (fun gk v wr=>∃ (k:Nat) (acc:List V) (va:Option Addr) (vc:Nat) (cells:List Value),k≤7∧gk=7 - k∧v = .int .i64 (k:Int)∧Hid (acc=(nums8 kd fr ds tm (okI ok) ix lt cm).take (upto8 k))∧Hid (MakingB w4.heap.size w2.heap.size acc va vc cells wr)∧Hid (KeptB w4.heap.size w2.heap.size w4 wr))
 case atStart=>exact⟨0,[],none,0,[],Nat.zero_le _,rfl,rfl,Lib.hid rfl,HM4,Lib.hid (KeptB.refl _ _ _)⟩
 case round =>
  clear HM4
  obtain⟨k,acc,va,vc,cells,hk,rfl,rfl,HACC,hM,hKP⟩:=hrel
  have HKr:Hid (Blk wr w.heap.size 25 [.int .i64 kd,.int .i64 fr,.int .i64 ds,.int .i64 tm,.bool ok,.int .i64 ix,.int .i64 lt,.slice ar nr cr,.int .i64 cm,.string sn,.slice av nv cv]):=Lib.hid ((hKP.out.block _ (by omega) (by omega)).trans HK4.out)
  by_cases hk7:k<7
  ·rcases (show k=0∨k=1∨k=2∨k=3∨k=4∨k=5∨k=6 by omega) with rfl | rfl | rfl | rfl | rfl | rfl | rfl
   ·have HLI:Hid (acc.length≤8):=Lib.hid (by rw [HACC.out,List.length_take]; exact Nat.min_le_right _ 8)
    have hle:=hM.out.le
    rw [show ((0:Nat):Int)=0 from rfl]
    have hix:=ix7_0 w.heap.size
    go_wp2_with fail
    clear hix
    refine wp_region_lastE (regOf Tryz.f10 12) [some 34,some 35,some 36,some 37,some 38,some 39,some 40,some 41,some 42] 9 (npbT w4.heap.size w2.heap.size w.heap.size 0 kd va vc acc cells ((.cells #[.int .i64 kd,.int .i64 fr,.int .i64 ds,.int .i64 tm,.bool ok,.int .i64 ix,.int .i64 lt,.slice ar nr cr,.int .i64 cm,.string sn,.slice av nv cv] 25 (0,0))) wr) (fun e w'=>(wr.grownBy w' (Value.slice va acc.length vc).ownBlock)∧(e 7=none→MakingB w4.heap.size w2.heap.size acc va vc cells w')) npbD (by kernel_rfl) (by kernel_rfl) (by kernel_rfl) (by kernel_rfl) (by kernel_rfl) (by kernel_rfl) (by kernel_rfl) ⟨grown_of_below ((Below.refl _ _).drew) _,fun _=>hM.out.under ((Below.refl _ _).drew)⟩
     (npb_steps w4.heap.size w2.heap.size w.heap.size 0 kd va vc acc cells ((.cells #[.int .i64 kd,.int .i64 fr,.int .i64 ds,.int .i64 tm,.bool ok,.int .i64 ix,.int .i64 lt,.slice ar nr cr,.int .i64 cm,.string sn,.slice av nv cv] 25 (0,0))) wr (by have:=hM.out.le; omega) (HKr.out.lt) (fun e=>by have:=(hM.out.own.lt _ e.symm).1; omega) HKr.out (fun W hW=>(Lib.cell_of_heap hW 0).trans rfl) (fun k hk=>(hM.out.own.lt k hk).2) (by have:=HLI.out; omega) (by kernel_rfl) (by kernel_rfl) (by kernel_rfl) (by kernel_rfl)) ?_
    intro oL hoL eL vs w9 hn hallL hCw9 hT KL hKL
    replace hn:vs.length=9:=hn
    obtain⟨v0,vs1,rfl,hn1⟩:=len_cons hn
    obtain⟨v1,vs2,rfl,hn2⟩:=len_cons hn1
    obtain⟨v2,vs3,rfl,hn3⟩:=len_cons hn2
    obtain⟨v3,vs4,rfl,hn4⟩:=len_cons hn3
    obtain⟨v4,vs5,rfl,hn5⟩:=len_cons hn4
    obtain⟨v5,vs6,rfl,hn6⟩:=len_cons hn5
    obtain⟨v6,vs7,rfl,hn7⟩:=len_cons hn6
    obtain⟨v7,vs8,rfl,hn8⟩:=len_cons hn7
    obtain⟨v8,vs9,rfl,hn9⟩:=len_cons hn8
    obtain rfl:=List.eq_nil_of_length_eq_zero hn9
    clear hn hn1 hn2 hn3 hn4 hn5 hn6 hn7 hn8 hn9
    obtain rfl:v0 = .pointer (some ⟨w2.heap.size,3,none⟩):=hT 0 v0 rfl (by kernel_rfl)
    obtain rfl:v1 = .slice va acc.length vc:=hT 1 v1 rfl (by kernel_rfl)
    obtain rfl:v2 = .pointer (some ⟨w.heap.size,0,none⟩):=hT 2 v2 rfl (by kernel_rfl)
    obtain rfl:v3 = .pointer (some ⟨w.heap.size,0,none⟩):=hT 3 v3 rfl (by kernel_rfl)
    obtain rfl:v4 = .int .i64 kd:=hT 4 v4 rfl (by kernel_rfl)
    obtain rfl:v5 = .agg #[.int .i64 1,.int .i64 kd,.string ⟨#[]⟩,.slice none 0 0]:=hT 5 v5 rfl (by kernel_rfl)
    have t7:=Lib.hid (hT 7 v7 rfl (by kernel_rfl))
    obtain rfl:v8 = .pointer (some ⟨w2.heap.size,3,none⟩):=hT 8 v8 rfl (by kernel_rfl)
    clear hT
    have hoL1:=opIs hoL (p:=.store 68 (.tmp 42) (.tmp 41)) (by kernel_rfl)
    have hgL:=guardIs hoL (p:=none) (by kernel_rfl)
    have hdL:oL.dst=none:=by have:=(show ((regOf Tryz.f10 12)[9]?).map (·.dst)=some (none) by kernel_rfl); rw [hoL] at this; simpa using this
    rw [if_pos (wanted_free hgL)]
    rw [hdL] at hKL
    simp only [puts,Act.put,List.setIfInBounds_toArray,List.set_cons_succ,List.set_cons_zero] at hKL ⊢
    obtain⟨hC9,-⟩:=hCw9
    obtain⟨a3,c3,cells3,e11,hmade⟩:=t7.out
    subst e11
    have e3:=hmade.box.c3
    have k3:=hmade.box.free 3
    unfold Oper.wp
    rw [show (execOp _ oL).run Tryz.prog w9 = .ok .skip (w9.setCell ⟨w2.heap.size,3,none⟩ (.slice a3 (acc.length+[numV kd].length) c3)) by unfold execOp; simp only [hoL1]; simp [go_sem,e3,k3]]
    show KL (Act.put _ oL.dst undef) _
    rw [hdL]
    refine hKL undef _ ?_
    have HMK:=Lib.hid hmade.store
    have HKN:=Lib.hid ((hKP.out.grown hC9 (by omega) (fun k hk=>.inl (hM.out.own.lt k hk).1)).grown (grown_setCell w9 w2.heap.size 3 (.slice a3 (acc.length+[numV kd].length) c3)) (by have:=hC9.size; have:=hM.out.le; omega) (fun k hk=>.inr (Option.some.inj hk).symm))
    clear e3 k3 hmade t7 hC9 hKL hoL hoL1 hgL hdL hallL
    generalize w9.setCell ⟨w2.heap.size,3,none⟩ (.slice a3 (acc.length+[numV kd].length) c3)=w10 at *
    go_wp2_with fail
    go_roundg (7 - 1)
    case rel=>exact⟨1,_,a3,c3,cells3,by omega,rfl,by go_num,Lib.hid (by rw [HACC.out]; rfl),HMK,HKN⟩
    case measure=>omega
   ·have HLI:Hid (acc.length≤8):=Lib.hid (by rw [HACC.out,List.length_take]; exact Nat.min_le_right _ 8)
    have hle:=hM.out.le
    rw [show ((1:Nat):Int)=1 from rfl]
    have hix:=ix7_1 w.heap.size
    go_wp2_with fail
    clear hix
    refine wp_region_lastE (regOf Tryz.f10 12) [some 34,some 35,some 36,some 37,some 38,some 39,some 40,some 41,some 42] 9 (npbT w4.heap.size w2.heap.size w.heap.size 1 fr va vc acc cells ((.cells #[.int .i64 kd,.int .i64 fr,.int .i64 ds,.int .i64 tm,.bool ok,.int .i64 ix,.int .i64 lt,.slice ar nr cr,.int .i64 cm,.string sn,.slice av nv cv] 25 (0,0))) wr) (fun e w'=>(wr.grownBy w' (Value.slice va acc.length vc).ownBlock)∧(e 7=none→MakingB w4.heap.size w2.heap.size acc va vc cells w')) npbD (by kernel_rfl) (by kernel_rfl) (by kernel_rfl) (by kernel_rfl) (by kernel_rfl) (by kernel_rfl) (by kernel_rfl) ⟨grown_of_below ((Below.refl _ _).drew) _,fun _=>hM.out.under ((Below.refl _ _).drew)⟩
     (npb_steps w4.heap.size w2.heap.size w.heap.size 1 fr va vc acc cells ((.cells #[.int .i64 kd,.int .i64 fr,.int .i64 ds,.int .i64 tm,.bool ok,.int .i64 ix,.int .i64 lt,.slice ar nr cr,.int .i64 cm,.string sn,.slice av nv cv] 25 (0,0))) wr (by have:=hM.out.le; omega) (HKr.out.lt) (fun e=>by have:=(hM.out.own.lt _ e.symm).1; omega) HKr.out (fun W hW=>(Lib.cell_of_heap hW 1).trans rfl) (fun k hk=>(hM.out.own.lt k hk).2) (by have:=HLI.out; omega) (by kernel_rfl) (by kernel_rfl) (by kernel_rfl) (by kernel_rfl)) ?_
    intro oL hoL eL vs w9 hn hallL hCw9 hT KL hKL
    replace hn:vs.length=9:=hn
    obtain⟨v0,vs1,rfl,hn1⟩:=len_cons hn
    obtain⟨v1,vs2,rfl,hn2⟩:=len_cons hn1
    obtain⟨v2,vs3,rfl,hn3⟩:=len_cons hn2
    obtain⟨v3,vs4,rfl,hn4⟩:=len_cons hn3
    obtain⟨v4,vs5,rfl,hn5⟩:=len_cons hn4
    obtain⟨v5,vs6,rfl,hn6⟩:=len_cons hn5
    obtain⟨v6,vs7,rfl,hn7⟩:=len_cons hn6
    obtain⟨v7,vs8,rfl,hn8⟩:=len_cons hn7
    obtain⟨v8,vs9,rfl,hn9⟩:=len_cons hn8
    obtain rfl:=List.eq_nil_of_length_eq_zero hn9
    clear hn hn1 hn2 hn3 hn4 hn5 hn6 hn7 hn8 hn9
    obtain rfl:v0 = .pointer (some ⟨w2.heap.size,3,none⟩):=hT 0 v0 rfl (by kernel_rfl)
    obtain rfl:v1 = .slice va acc.length vc:=hT 1 v1 rfl (by kernel_rfl)
    obtain rfl:v2 = .pointer (some ⟨w.heap.size,1,none⟩):=hT 2 v2 rfl (by kernel_rfl)
    obtain rfl:v3 = .pointer (some ⟨w.heap.size,1,none⟩):=hT 3 v3 rfl (by kernel_rfl)
    obtain rfl:v4 = .int .i64 fr:=hT 4 v4 rfl (by kernel_rfl)
    obtain rfl:v5 = .agg #[.int .i64 1,.int .i64 fr,.string ⟨#[]⟩,.slice none 0 0]:=hT 5 v5 rfl (by kernel_rfl)
    have t7:=Lib.hid (hT 7 v7 rfl (by kernel_rfl))
    obtain rfl:v8 = .pointer (some ⟨w2.heap.size,3,none⟩):=hT 8 v8 rfl (by kernel_rfl)
    clear hT
    have hoL1:=opIs hoL (p:=.store 68 (.tmp 42) (.tmp 41)) (by kernel_rfl)
    have hgL:=guardIs hoL (p:=none) (by kernel_rfl)
    have hdL:oL.dst=none:=by have:=(show ((regOf Tryz.f10 12)[9]?).map (·.dst)=some (none) by kernel_rfl); rw [hoL] at this; simpa using this
    rw [if_pos (wanted_free hgL)]
    rw [hdL] at hKL
    simp only [puts,Act.put,List.setIfInBounds_toArray,List.set_cons_succ,List.set_cons_zero] at hKL ⊢
    obtain⟨hC9,-⟩:=hCw9
    obtain⟨a3,c3,cells3,e11,hmade⟩:=t7.out
    subst e11
    have e3:=hmade.box.c3
    have k3:=hmade.box.free 3
    unfold Oper.wp
    rw [show (execOp _ oL).run Tryz.prog w9 = .ok .skip (w9.setCell ⟨w2.heap.size,3,none⟩ (.slice a3 (acc.length+[numV fr].length) c3)) by unfold execOp; simp only [hoL1]; simp [go_sem,e3,k3]]
    show KL (Act.put _ oL.dst undef) _
    rw [hdL]
    refine hKL undef _ ?_
    have HMK:=Lib.hid hmade.store
    have HKN:=Lib.hid ((hKP.out.grown hC9 (by omega) (fun k hk=>.inl (hM.out.own.lt k hk).1)).grown (grown_setCell w9 w2.heap.size 3 (.slice a3 (acc.length+[numV fr].length) c3)) (by have:=hC9.size; have:=hM.out.le; omega) (fun k hk=>.inr (Option.some.inj hk).symm))
    clear e3 k3 hmade t7 hC9 hKL hoL hoL1 hgL hdL hallL
    generalize w9.setCell ⟨w2.heap.size,3,none⟩ (.slice a3 (acc.length+[numV fr].length) c3)=w10 at *
    go_wp2_with fail
    go_roundg (7 - 2)
    case rel=>exact⟨2,_,a3,c3,cells3,by omega,rfl,by go_num,Lib.hid (by rw [HACC.out]; rfl),HMK,HKN⟩
    case measure=>omega
   ·have HLI:Hid (acc.length≤8):=Lib.hid (by rw [HACC.out,List.length_take]; exact Nat.min_le_right _ 8)
    have hle:=hM.out.le
    rw [show ((2:Nat):Int)=2 from rfl]
    have hix:=ix7_2 w.heap.size
    go_wp2_with fail
    clear hix
    refine wp_region_lastE (regOf Tryz.f10 12) [some 34,some 35,some 36,some 37,some 38,some 39,some 40,some 41,some 42] 9 (npbT w4.heap.size w2.heap.size w.heap.size 2 ds va vc acc cells ((.cells #[.int .i64 kd,.int .i64 fr,.int .i64 ds,.int .i64 tm,.bool ok,.int .i64 ix,.int .i64 lt,.slice ar nr cr,.int .i64 cm,.string sn,.slice av nv cv] 25 (0,0))) wr) (fun e w'=>(wr.grownBy w' (Value.slice va acc.length vc).ownBlock)∧(e 7=none→MakingB w4.heap.size w2.heap.size acc va vc cells w')) npbD (by kernel_rfl) (by kernel_rfl) (by kernel_rfl) (by kernel_rfl) (by kernel_rfl) (by kernel_rfl) (by kernel_rfl) ⟨grown_of_below ((Below.refl _ _).drew) _,fun _=>hM.out.under ((Below.refl _ _).drew)⟩
     (npb_steps w4.heap.size w2.heap.size w.heap.size 2 ds va vc acc cells ((.cells #[.int .i64 kd,.int .i64 fr,.int .i64 ds,.int .i64 tm,.bool ok,.int .i64 ix,.int .i64 lt,.slice ar nr cr,.int .i64 cm,.string sn,.slice av nv cv] 25 (0,0))) wr (by have:=hM.out.le; omega) (HKr.out.lt) (fun e=>by have:=(hM.out.own.lt _ e.symm).1; omega) HKr.out (fun W hW=>(Lib.cell_of_heap hW 2).trans rfl) (fun k hk=>(hM.out.own.lt k hk).2) (by have:=HLI.out; omega) (by kernel_rfl) (by kernel_rfl) (by kernel_rfl) (by kernel_rfl)) ?_
    intro oL hoL eL vs w9 hn hallL hCw9 hT KL hKL
    replace hn:vs.length=9:=hn
    obtain⟨v0,vs1,rfl,hn1⟩:=len_cons hn
    obtain⟨v1,vs2,rfl,hn2⟩:=len_cons hn1
    obtain⟨v2,vs3,rfl,hn3⟩:=len_cons hn2
    obtain⟨v3,vs4,rfl,hn4⟩:=len_cons hn3
    obtain⟨v4,vs5,rfl,hn5⟩:=len_cons hn4
    obtain⟨v5,vs6,rfl,hn6⟩:=len_cons hn5
    obtain⟨v6,vs7,rfl,hn7⟩:=len_cons hn6
    obtain⟨v7,vs8,rfl,hn8⟩:=len_cons hn7
    obtain⟨v8,vs9,rfl,hn9⟩:=len_cons hn8
    obtain rfl:=List.eq_nil_of_length_eq_zero hn9
    clear hn hn1 hn2 hn3 hn4 hn5 hn6 hn7 hn8 hn9
    obtain rfl:v0 = .pointer (some ⟨w2.heap.size,3,none⟩):=hT 0 v0 rfl (by kernel_rfl)
    obtain rfl:v1 = .slice va acc.length vc:=hT 1 v1 rfl (by kernel_rfl)
    obtain rfl:v2 = .pointer (some ⟨w.heap.size,2,none⟩):=hT 2 v2 rfl (by kernel_rfl)
    obtain rfl:v3 = .pointer (some ⟨w.heap.size,2,none⟩):=hT 3 v3 rfl (by kernel_rfl)
    obtain rfl:v4 = .int .i64 ds:=hT 4 v4 rfl (by kernel_rfl)
    obtain rfl:v5 = .agg #[.int .i64 1,.int .i64 ds,.string ⟨#[]⟩,.slice none 0 0]:=hT 5 v5 rfl (by kernel_rfl)
    have t7:=Lib.hid (hT 7 v7 rfl (by kernel_rfl))
    obtain rfl:v8 = .pointer (some ⟨w2.heap.size,3,none⟩):=hT 8 v8 rfl (by kernel_rfl)
    clear hT
    have hoL1:=opIs hoL (p:=.store 68 (.tmp 42) (.tmp 41)) (by kernel_rfl)
    have hgL:=guardIs hoL (p:=none) (by kernel_rfl)
    have hdL:oL.dst=none:=by have:=(show ((regOf Tryz.f10 12)[9]?).map (·.dst)=some (none) by kernel_rfl); rw [hoL] at this; simpa using this
    rw [if_pos (wanted_free hgL)]
    rw [hdL] at hKL
    simp only [puts,Act.put,List.setIfInBounds_toArray,List.set_cons_succ,List.set_cons_zero] at hKL ⊢
    obtain⟨hC9,-⟩:=hCw9
    obtain⟨a3,c3,cells3,e11,hmade⟩:=t7.out
    subst e11
    have e3:=hmade.box.c3
    have k3:=hmade.box.free 3
    unfold Oper.wp
    rw [show (execOp _ oL).run Tryz.prog w9 = .ok .skip (w9.setCell ⟨w2.heap.size,3,none⟩ (.slice a3 (acc.length+[numV ds].length) c3)) by unfold execOp; simp only [hoL1]; simp [go_sem,e3,k3]]
    show KL (Act.put _ oL.dst undef) _
    rw [hdL]
    refine hKL undef _ ?_
    have HMK:=Lib.hid hmade.store
    have HKN:=Lib.hid ((hKP.out.grown hC9 (by omega) (fun k hk=>.inl (hM.out.own.lt k hk).1)).grown (grown_setCell w9 w2.heap.size 3 (.slice a3 (acc.length+[numV ds].length) c3)) (by have:=hC9.size; have:=hM.out.le; omega) (fun k hk=>.inr (Option.some.inj hk).symm))
    clear e3 k3 hmade t7 hC9 hKL hoL hoL1 hgL hdL hallL
    generalize w9.setCell ⟨w2.heap.size,3,none⟩ (.slice a3 (acc.length+[numV ds].length) c3)=w10 at *
    go_wp2_with fail
    go_roundg (7 - 3)
    case rel=>exact⟨3,_,a3,c3,cells3,by omega,rfl,by go_num,Lib.hid (by rw [HACC.out]; rfl),HMK,HKN⟩
    case measure=>omega
   ·have HLI:Hid (acc.length≤8):=Lib.hid (by rw [HACC.out,List.length_take]; exact Nat.min_le_right _ 8)
    have hle:=hM.out.le
    rw [show ((3:Nat):Int)=3 from rfl]
    have hix:=ix7_3 w.heap.size
    go_wp2_with fail
    clear hix
    refine wp_region_lastE (regOf Tryz.f10 12) [some 34,some 35,some 36,some 37,some 38,some 39,some 40,some 41,some 42] 9 (npbT w4.heap.size w2.heap.size w.heap.size 3 tm va vc acc cells ((.cells #[.int .i64 kd,.int .i64 fr,.int .i64 ds,.int .i64 tm,.bool ok,.int .i64 ix,.int .i64 lt,.slice ar nr cr,.int .i64 cm,.string sn,.slice av nv cv] 25 (0,0))) wr) (fun e w'=>(wr.grownBy w' (Value.slice va acc.length vc).ownBlock)∧(e 7=none→MakingB w4.heap.size w2.heap.size acc va vc cells w')) npbD (by kernel_rfl) (by kernel_rfl) (by kernel_rfl) (by kernel_rfl) (by kernel_rfl) (by kernel_rfl) (by kernel_rfl) ⟨grown_of_below ((Below.refl _ _).drew) _,fun _=>hM.out.under ((Below.refl _ _).drew)⟩
     (npb_steps w4.heap.size w2.heap.size w.heap.size 3 tm va vc acc cells ((.cells #[.int .i64 kd,.int .i64 fr,.int .i64 ds,.int .i64 tm,.bool ok,.int .i64 ix,.int .i64 lt,.slice ar nr cr,.int .i64 cm,.string sn,.slice av nv cv] 25 (0,0))) wr (by have:=hM.out.le; omega) (HKr.out.lt) (fun e=>by have:=(hM.out.own.lt _ e.symm).1; omega) HKr.out (fun W hW=>(Lib.cell_of_heap hW 3).trans rfl) (fun k hk=>(hM.out.own.lt k hk).2) (by have:=HLI.out; omega) (by kernel_rfl) (by kernel_rfl) (by kernel_rfl) (by kernel_rfl)) ?_
    intro oL hoL eL vs w9 hn hallL hCw9 hT KL hKL
    replace hn:vs.length=9:=hn
    obtain⟨v0,vs1,rfl,hn1⟩:=len_cons hn
    obtain⟨v1,vs2,rfl,hn2⟩:=len_cons hn1
    obtain⟨v2,vs3,rfl,hn3⟩:=len_cons hn2
    obtain⟨v3,vs4,rfl,hn4⟩:=len_cons hn3
    obtain⟨v4,vs5,rfl,hn5⟩:=len_cons hn4
    obtain⟨v5,vs6,rfl,hn6⟩:=len_cons hn5
    obtain⟨v6,vs7,rfl,hn7⟩:=len_cons hn6
    obtain⟨v7,vs8,rfl,hn8⟩:=len_cons hn7
    obtain⟨v8,vs9,rfl,hn9⟩:=len_cons hn8
    obtain rfl:=List.eq_nil_of_length_eq_zero hn9
    clear hn hn1 hn2 hn3 hn4 hn5 hn6 hn7 hn8 hn9
    obtain rfl:v0 = .pointer (some ⟨w2.heap.size,3,none⟩):=hT 0 v0 rfl (by kernel_rfl)
    obtain rfl:v1 = .slice va acc.length vc:=hT 1 v1 rfl (by kernel_rfl)
    obtain rfl:v2 = .pointer (some ⟨w.heap.size,3,none⟩):=hT 2 v2 rfl (by kernel_rfl)
    obtain rfl:v3 = .pointer (some ⟨w.heap.size,3,none⟩):=hT 3 v3 rfl (by kernel_rfl)
    obtain rfl:v4 = .int .i64 tm:=hT 4 v4 rfl (by kernel_rfl)
    obtain rfl:v5 = .agg #[.int .i64 1,.int .i64 tm,.string ⟨#[]⟩,.slice none 0 0]:=hT 5 v5 rfl (by kernel_rfl)
    have t7:=Lib.hid (hT 7 v7 rfl (by kernel_rfl))
    obtain rfl:v8 = .pointer (some ⟨w2.heap.size,3,none⟩):=hT 8 v8 rfl (by kernel_rfl)
    clear hT
    have hoL1:=opIs hoL (p:=.store 68 (.tmp 42) (.tmp 41)) (by kernel_rfl)
    have hgL:=guardIs hoL (p:=none) (by kernel_rfl)
    have hdL:oL.dst=none:=by have:=(show ((regOf Tryz.f10 12)[9]?).map (·.dst)=some (none) by kernel_rfl); rw [hoL] at this; simpa using this
    rw [if_pos (wanted_free hgL)]
    rw [hdL] at hKL
    simp only [puts,Act.put,List.setIfInBounds_toArray,List.set_cons_succ,List.set_cons_zero] at hKL ⊢
    obtain⟨hC9,-⟩:=hCw9
    obtain⟨a3,c3,cells3,e11,hmade⟩:=t7.out
    subst e11
    have e3:=hmade.box.c3
    have k3:=hmade.box.free 3
    unfold Oper.wp
    rw [show (execOp _ oL).run Tryz.prog w9 = .ok .skip (w9.setCell ⟨w2.heap.size,3,none⟩ (.slice a3 (acc.length+[numV tm].length) c3)) by unfold execOp; simp only [hoL1]; simp [go_sem,e3,k3]]
    show KL (Act.put _ oL.dst undef) _
    rw [hdL]
    refine hKL undef _ ?_
    have HMK:=Lib.hid hmade.store
    have HKN:=Lib.hid ((hKP.out.grown hC9 (by omega) (fun k hk=>.inl (hM.out.own.lt k hk).1)).grown (grown_setCell w9 w2.heap.size 3 (.slice a3 (acc.length+[numV tm].length) c3)) (by have:=hC9.size; have:=hM.out.le; omega) (fun k hk=>.inr (Option.some.inj hk).symm))
    clear e3 k3 hmade t7 hC9 hKL hoL hoL1 hgL hdL hallL
    generalize w9.setCell ⟨w2.heap.size,3,none⟩ (.slice a3 (acc.length+[numV tm].length) c3)=w10 at *
    go_wp2_with fail
    go_roundg (7 - 4)
    case rel=>exact⟨4,_,a3,c3,cells3,by omega,rfl,by go_num,Lib.hid (by rw [HACC.out]; rfl),HMK,HKN⟩
    case measure=>omega
   ·have HLI:Hid (acc.length≤8):=Lib.hid (by rw [HACC.out,List.length_take]; exact Nat.min_le_right _ 8)
    have hle:=hM.out.le
    rw [show ((4:Nat):Int)=4 from rfl]
    have hix:=ix7_4 w.heap.size
    have x4:=HKr.out.cell (j:=4) rfl
    cases ok
    ·go_wp2_with fail
     clear hix x4
     refine wp_region_lastE (regOf Tryz.f10 11) [some 27,some 28,some 29,some 30,some 31,some 32,some 33] 7 (npaT w4.heap.size w2.heap.size 0 va vc acc cells wr) (fun e w'=>(wr.grownBy w' (Value.slice va acc.length vc).ownBlock)∧(e 5=none→MakingB w4.heap.size w2.heap.size acc va vc cells w')) npaD (by kernel_rfl) (by kernel_rfl) (by kernel_rfl) (by kernel_rfl) (by kernel_rfl) (by kernel_rfl) (by kernel_rfl) ⟨grown_of_below ((Below.refl _ _).drew) _,fun _=>hM.out.under ((Below.refl _ _).drew)⟩
      (npa_steps w4.heap.size w2.heap.size 0 va vc acc cells wr (by have:=hM.out.le; omega) (fun k hk=>(hM.out.own.lt k hk).2) (by have:=HLI.out; omega) (by kernel_rfl) (by kernel_rfl) (by kernel_rfl) (by kernel_rfl)) ?_
     intro oL hoL eL vs w9 hn hallL hCw9 hT KL hKL
     replace hn:vs.length=7:=hn
     obtain⟨v0,vs1,rfl,hn1⟩:=len_cons hn
     obtain⟨v1,vs2,rfl,hn2⟩:=len_cons hn1
     obtain⟨v2,vs3,rfl,hn3⟩:=len_cons hn2
     obtain⟨v3,vs4,rfl,hn4⟩:=len_cons hn3
     obtain⟨v4,vs5,rfl,hn5⟩:=len_cons hn4
     obtain⟨v5,vs6,rfl,hn6⟩:=len_cons hn5
     obtain⟨v6,vs7,rfl,hn7⟩:=len_cons hn6
     obtain rfl:=List.eq_nil_of_length_eq_zero hn7
     clear hn hn1 hn2 hn3 hn4 hn5 hn6 hn7
     obtain rfl:v0 = .pointer (some ⟨w2.heap.size,3,none⟩):=hT 0 v0 rfl (by kernel_rfl)
     obtain rfl:v1 = .slice va acc.length vc:=hT 1 v1 rfl (by kernel_rfl)
     obtain rfl:v2 = .int .i64 0:=hT 2 v2 rfl (by kernel_rfl)
     obtain rfl:v3 = .agg #[.int .i64 1,.int .i64 0,.string ⟨#[]⟩,.slice none 0 0]:=hT 3 v3 rfl (by kernel_rfl)
     have t5:=Lib.hid (hT 5 v5 rfl (by kernel_rfl))
     obtain rfl:v6 = .pointer (some ⟨w2.heap.size,3,none⟩):=hT 6 v6 rfl (by kernel_rfl)
     clear hT
     have hoL1:=opIs hoL (p:=.store 68 (.tmp 33) (.tmp 32)) (by kernel_rfl)
     have hgL:=guardIs hoL (p:=none) (by kernel_rfl)
     have hdL:oL.dst=none:=by have:=(show ((regOf Tryz.f10 11)[7]?).map (·.dst)=some (none) by kernel_rfl); rw [hoL] at this; simpa using this
     rw [if_pos (wanted_free hgL)]
     rw [hdL] at hKL
     simp only [puts,Act.put,List.setIfInBounds_toArray,List.set_cons_succ,List.set_cons_zero] at hKL ⊢
     obtain⟨hC9,-⟩:=hCw9
     obtain⟨a3,c3,cells3,e11,hmade⟩:=t5.out
     subst e11
     have e3:=hmade.box.c3
     have k3:=hmade.box.free 3
     unfold Oper.wp
     rw [show (execOp _ oL).run Tryz.prog w9 = .ok .skip (w9.setCell ⟨w2.heap.size,3,none⟩ (.slice a3 (acc.length+[numV 0].length) c3)) by unfold execOp; simp only [hoL1]; simp [go_sem,e3,k3]]
     show KL (Act.put _ oL.dst undef) _
     rw [hdL]
     refine hKL undef _ ?_
     have HMK:=Lib.hid hmade.store
     have HKN:=Lib.hid ((hKP.out.grown hC9 (by omega) (fun k hk=>.inl (hM.out.own.lt k hk).1)).grown (grown_setCell w9 w2.heap.size 3 (.slice a3 (acc.length+[numV 0].length) c3)) (by have:=hC9.size; have:=hM.out.le; omega) (fun k hk=>.inr (Option.some.inj hk).symm))
     clear e3 k3 hmade t5 hC9 hKL hoL hoL1 hgL hdL hallL
     generalize w9.setCell ⟨w2.heap.size,3,none⟩ (.slice a3 (acc.length+[numV 0].length) c3)=w10 at *
     obtain⟨acc2,HA2⟩:∃ l,Hid (l=acc++[numV 0]):=⟨_,Lib.hid rfl⟩
     rw [← HA2.out] at HMK
     have HKr2:=Lib.hid (show Blk w10 _ _ _ from (HKN.out.block _ (by omega) (by omega)).trans HK4.out)
     replace HLI:=Lib.hid (show acc2.length≤9 by rw [HA2.out,List.length_append]; have:=HLI.out; simp; omega)
     have hle2:=HMK.out.le
     have HM0:=HMK
     have KP0:=HKN
     clear HMK HKN
     go_wp2_with fail
     refine wp_region_lastE (regOf Tryz.f10 12) [some 34,some 35,some 36,some 37,some 38,some 39,some 40,some 41,some 42] 9 (npbT w4.heap.size w2.heap.size w.heap.size 5 ix a3 c3 acc2 cells3 ((.cells #[.int .i64 kd,.int .i64 fr,.int .i64 ds,.int .i64 tm,.bool false,.int .i64 ix,.int .i64 lt,.slice ar nr cr,.int .i64 cm,.string sn,.slice av nv cv] 25 (0,0))) w10) (fun e w'=>(w10.grownBy w' (Value.slice a3 acc2.length c3).ownBlock)∧(e 7=none→MakingB w4.heap.size w2.heap.size acc2 a3 c3 cells3 w')) npbD (by kernel_rfl) (by kernel_rfl) (by kernel_rfl) (by kernel_rfl) (by kernel_rfl) (by kernel_rfl) (by kernel_rfl) ⟨grown_of_below ((Below.refl _ _).drew) _,fun _=>HM0.out.under ((Below.refl _ _).drew)⟩
      (npb_steps w4.heap.size w2.heap.size w.heap.size 5 ix a3 c3 acc2 cells3 ((.cells #[.int .i64 kd,.int .i64 fr,.int .i64 ds,.int .i64 tm,.bool false,.int .i64 ix,.int .i64 lt,.slice ar nr cr,.int .i64 cm,.string sn,.slice av nv cv] 25 (0,0))) w10 (by have:=HM0.out.le; omega) (HKr2.out.lt) (fun e=>by have:=(HM0.out.own.lt _ e.symm).1; omega) HKr2.out (fun W hW=>(Lib.cell_of_heap hW 5).trans rfl) (fun k hk=>(HM0.out.own.lt k hk).2) (by have:=HLI.out; omega) (by kernel_rfl) (by kernel_rfl) (by kernel_rfl) (by kernel_rfl)) ?_
     intro oL hoL eL vs w11 hn hallL hCw11 hT KL hKL
     replace hn:vs.length=9:=hn
     obtain⟨v0,vs1,rfl,hn1⟩:=len_cons hn
     obtain⟨v1,vs2,rfl,hn2⟩:=len_cons hn1
     obtain⟨v2,vs3,rfl,hn3⟩:=len_cons hn2
     obtain⟨v3,vs4,rfl,hn4⟩:=len_cons hn3
     obtain⟨v4,vs5,rfl,hn5⟩:=len_cons hn4
     obtain⟨v5,vs6,rfl,hn6⟩:=len_cons hn5
     obtain⟨v6,vs7,rfl,hn7⟩:=len_cons hn6
     obtain⟨v7,vs8,rfl,hn8⟩:=len_cons hn7
     obtain⟨v8,vs9,rfl,hn9⟩:=len_cons hn8
     obtain rfl:=List.eq_nil_of_length_eq_zero hn9
     clear hn hn1 hn2 hn3 hn4 hn5 hn6 hn7 hn8 hn9
     obtain rfl:v0 = .pointer (some ⟨w2.heap.size,3,none⟩):=hT 0 v0 rfl (by kernel_rfl)
     obtain rfl:v1 = .slice a3 acc2.length c3:=hT 1 v1 rfl (by kernel_rfl)
     obtain rfl:v2 = .pointer (some ⟨w.heap.size,5,none⟩):=hT 2 v2 rfl (by kernel_rfl)
     obtain rfl:v3 = .pointer (some ⟨w.heap.size,5,none⟩):=hT 3 v3 rfl (by kernel_rfl)
     obtain rfl:v4 = .int .i64 ix:=hT 4 v4 rfl (by kernel_rfl)
     obtain rfl:v5 = .agg #[.int .i64 1,.int .i64 ix,.string ⟨#[]⟩,.slice none 0 0]:=hT 5 v5 rfl (by kernel_rfl)
     have t7:=Lib.hid (hT 7 v7 rfl (by kernel_rfl))
     obtain rfl:v8 = .pointer (some ⟨w2.heap.size,3,none⟩):=hT 8 v8 rfl (by kernel_rfl)
     clear hT
     have hoL1:=opIs hoL (p:=.store 68 (.tmp 42) (.tmp 41)) (by kernel_rfl)
     have hgL:=guardIs hoL (p:=none) (by kernel_rfl)
     have hdL:oL.dst=none:=by have:=(show ((regOf Tryz.f10 12)[9]?).map (·.dst)=some (none) by kernel_rfl); rw [hoL] at this; simpa using this
     rw [if_pos (wanted_free hgL)]
     rw [hdL] at hKL
     simp only [puts,Act.put,List.setIfInBounds_toArray,List.set_cons_succ,List.set_cons_zero] at hKL ⊢
     obtain⟨hC9,-⟩:=hCw11
     obtain⟨a3,c3,cells3,e11,hmade⟩:=t7.out
     subst e11
     have e3:=hmade.box.c3
     have k3:=hmade.box.free 3
     unfold Oper.wp
     rw [show (execOp _ oL).run Tryz.prog w11 = .ok .skip (w11.setCell ⟨w2.heap.size,3,none⟩ (.slice a3 (acc2.length+[numV ix].length) c3)) by unfold execOp; simp only [hoL1]; simp [go_sem,e3,k3]]
     show KL (Act.put _ oL.dst undef) _
     rw [hdL]
     refine hKL undef _ ?_
     have HMK:=Lib.hid hmade.store
     have HKN:=Lib.hid ((KP0.out.grown hC9 (by omega) (fun k hk=>.inl (HM0.out.own.lt k hk).1)).grown (grown_setCell w11 w2.heap.size 3 (.slice a3 (acc2.length+[numV ix].length) c3)) (by have:=hC9.size; have:=HM0.out.le; omega) (fun k hk=>.inr (Option.some.inj hk).symm))
     clear e3 k3 hmade t7 hC9 hKL hoL hoL1 hgL hdL hallL
     generalize w11.setCell ⟨w2.heap.size,3,none⟩ (.slice a3 (acc2.length+[numV ix].length) c3)=w12 at *
     go_wp2_with fail
     go_roundg (7 - 5)
     case rel=>exact⟨5,_,a3,c3,cells3,by omega,rfl,by go_num,Lib.hid (by rw [HA2.out,HACC.out]; rfl),HMK,HKN⟩
     case measure=>omega
    ·go_wp2_with fail
     clear hix x4
     refine wp_region_lastE (regOf Tryz.f10 11) [some 27,some 28,some 29,some 30,some 31,some 32,some 33] 7 (npaT w4.heap.size w2.heap.size 1 va vc acc cells wr) (fun e w'=>(wr.grownBy w' (Value.slice va acc.length vc).ownBlock)∧(e 5=none→MakingB w4.heap.size w2.heap.size acc va vc cells w')) npaD (by kernel_rfl) (by kernel_rfl) (by kernel_rfl) (by kernel_rfl) (by kernel_rfl) (by kernel_rfl) (by kernel_rfl) ⟨grown_of_below ((Below.refl _ _).drew) _,fun _=>hM.out.under ((Below.refl _ _).drew)⟩
      (npa_steps w4.heap.size w2.heap.size 1 va vc acc cells wr (by have:=hM.out.le; omega) (fun k hk=>(hM.out.own.lt k hk).2) (by have:=HLI.out; omega) (by kernel_rfl) (by kernel_rfl) (by kernel_rfl) (by kernel_rfl)) ?_
     intro oL hoL eL vs w9 hn hallL hCw9 hT KL hKL
     replace hn:vs.length=7:=hn
     obtain⟨v0,vs1,rfl,hn1⟩:=len_cons hn
     obtain⟨v1,vs2,rfl,hn2⟩:=len_cons hn1
     obtain⟨v2,vs3,rfl,hn3⟩:=len_cons hn2
     obtain⟨v3,vs4,rfl,hn4⟩:=len_cons hn3
     obtain⟨v4,vs5,rfl,hn5⟩:=len_cons hn4
     obtain⟨v5,vs6,rfl,hn6⟩:=len_cons hn5
     obtain⟨v6,vs7,rfl,hn7⟩:=len_cons hn6
     obtain rfl:=List.eq_nil_of_length_eq_zero hn7
     clear hn hn1 hn2 hn3 hn4 hn5 hn6 hn7
     obtain rfl:v0 = .pointer (some ⟨w2.heap.size,3,none⟩):=hT 0 v0 rfl (by kernel_rfl)
     obtain rfl:v1 = .slice va acc.length vc:=hT 1 v1 rfl (by kernel_rfl)
     obtain rfl:v2 = .int .i64 1:=hT 2 v2 rfl (by kernel_rfl)
     obtain rfl:v3 = .agg #[.int .i64 1,.int .i64 1,.string ⟨#[]⟩,.slice none 0 0]:=hT 3 v3 rfl (by kernel_rfl)
     have t5:=Lib.hid (hT 5 v5 rfl (by kernel_rfl))
     obtain rfl:v6 = .pointer (some ⟨w2.heap.size,3,none⟩):=hT 6 v6 rfl (by kernel_rfl)
     clear hT
     have hoL1:=opIs hoL (p:=.store 68 (.tmp 33) (.tmp 32)) (by kernel_rfl)
     have hgL:=guardIs hoL (p:=none) (by kernel_rfl)
     have hdL:oL.dst=none:=by have:=(show ((regOf Tryz.f10 11)[7]?).map (·.dst)=some (none) by kernel_rfl); rw [hoL] at this; simpa using this
     rw [if_pos (wanted_free hgL)]
     rw [hdL] at hKL
     simp only [puts,Act.put,List.setIfInBounds_toArray,List.set_cons_succ,List.set_cons_zero] at hKL ⊢
     obtain⟨hC9,-⟩:=hCw9
     obtain⟨a3,c3,cells3,e11,hmade⟩:=t5.out
     subst e11
     have e3:=hmade.box.c3
     have k3:=hmade.box.free 3
     unfold Oper.wp
     rw [show (execOp _ oL).run Tryz.prog w9 = .ok .skip (w9.setCell ⟨w2.heap.size,3,none⟩ (.slice a3 (acc.length+[numV 1].length) c3)) by unfold execOp; simp only [hoL1]; simp [go_sem,e3,k3]]
     show KL (Act.put _ oL.dst undef) _
     rw [hdL]
     refine hKL undef _ ?_
     have HMK:=Lib.hid hmade.store
     have HKN:=Lib.hid ((hKP.out.grown hC9 (by omega) (fun k hk=>.inl (hM.out.own.lt k hk).1)).grown (grown_setCell w9 w2.heap.size 3 (.slice a3 (acc.length+[numV 1].length) c3)) (by have:=hC9.size; have:=hM.out.le; omega) (fun k hk=>.inr (Option.some.inj hk).symm))
     clear e3 k3 hmade t5 hC9 hKL hoL hoL1 hgL hdL hallL
     generalize w9.setCell ⟨w2.heap.size,3,none⟩ (.slice a3 (acc.length+[numV 1].length) c3)=w10 at *
     obtain⟨acc2,HA2⟩:∃ l,Hid (l=acc++[numV 1]):=⟨_,Lib.hid rfl⟩
     rw [← HA2.out] at HMK
     have HKr2:=Lib.hid (show Blk w10 _ _ _ from (HKN.out.block _ (by omega) (by omega)).trans HK4.out)
     replace HLI:=Lib.hid (show acc2.length≤9 by rw [HA2.out,List.length_append]; have:=HLI.out; simp; omega)
     have hle2:=HMK.out.le
     have HM0:=HMK
     have KP0:=HKN
     clear HMK HKN
     go_wp2_with fail
     refine wp_region_lastE (regOf Tryz.f10 12) [some 34,some 35,some 36,some 37,some 38,some 39,some 40,some 41,some 42] 9 (npbT w4.heap.size w2.heap.size w.heap.size 5 ix a3 c3 acc2 cells3 ((.cells #[.int .i64 kd,.int .i64 fr,.int .i64 ds,.int .i64 tm,.bool true,.int .i64 ix,.int .i64 lt,.slice ar nr cr,.int .i64 cm,.string sn,.slice av nv cv] 25 (0,0))) w10) (fun e w'=>(w10.grownBy w' (Value.slice a3 acc2.length c3).ownBlock)∧(e 7=none→MakingB w4.heap.size w2.heap.size acc2 a3 c3 cells3 w')) npbD (by kernel_rfl) (by kernel_rfl) (by kernel_rfl) (by kernel_rfl) (by kernel_rfl) (by kernel_rfl) (by kernel_rfl) ⟨grown_of_below ((Below.refl _ _).drew) _,fun _=>HM0.out.under ((Below.refl _ _).drew)⟩
      (npb_steps w4.heap.size w2.heap.size w.heap.size 5 ix a3 c3 acc2 cells3 ((.cells #[.int .i64 kd,.int .i64 fr,.int .i64 ds,.int .i64 tm,.bool true,.int .i64 ix,.int .i64 lt,.slice ar nr cr,.int .i64 cm,.string sn,.slice av nv cv] 25 (0,0))) w10 (by have:=HM0.out.le; omega) (HKr2.out.lt) (fun e=>by have:=(HM0.out.own.lt _ e.symm).1; omega) HKr2.out (fun W hW=>(Lib.cell_of_heap hW 5).trans rfl) (fun k hk=>(HM0.out.own.lt k hk).2) (by have:=HLI.out; omega) (by kernel_rfl) (by kernel_rfl) (by kernel_rfl) (by kernel_rfl)) ?_
     intro oL hoL eL vs w11 hn hallL hCw11 hT KL hKL
     replace hn:vs.length=9:=hn
     obtain⟨v0,vs1,rfl,hn1⟩:=len_cons hn
     obtain⟨v1,vs2,rfl,hn2⟩:=len_cons hn1
     obtain⟨v2,vs3,rfl,hn3⟩:=len_cons hn2
     obtain⟨v3,vs4,rfl,hn4⟩:=len_cons hn3
     obtain⟨v4,vs5,rfl,hn5⟩:=len_cons hn4
     obtain⟨v5,vs6,rfl,hn6⟩:=len_cons hn5
     obtain⟨v6,vs7,rfl,hn7⟩:=len_cons hn6
     obtain⟨v7,vs8,rfl,hn8⟩:=len_cons hn7
     obtain⟨v8,vs9,rfl,hn9⟩:=len_cons hn8
     obtain rfl:=List.eq_nil_of_length_eq_zero hn9
     clear hn hn1 hn2 hn3 hn4 hn5 hn6 hn7 hn8 hn9
     obtain rfl:v0 = .pointer (some ⟨w2.heap.size,3,none⟩):=hT 0 v0 rfl (by kernel_rfl)
     obtain rfl:v1 = .slice a3 acc2.length c3:=hT 1 v1 rfl (by kernel_rfl)
     obtain rfl:v2 = .pointer (some ⟨w.heap.size,5,none⟩):=hT 2 v2 rfl (by kernel_rfl)
     obtain rfl:v3 = .pointer (some ⟨w.heap.size,5,none⟩):=hT 3 v3 rfl (by kernel_rfl)
     obtain rfl:v4 = .int .i64 ix:=hT 4 v4 rfl (by kernel_rfl)
     obtain rfl:v5 = .agg #[.int .i64 1,.int .i64 ix,.string ⟨#[]⟩,.slice none 0 0]:=hT 5 v5 rfl (by kernel_rfl)
     have t7:=Lib.hid (hT 7 v7 rfl (by kernel_rfl))
     obtain rfl:v8 = .pointer (some ⟨w2.heap.size,3,none⟩):=hT 8 v8 rfl (by kernel_rfl)
     clear hT
     have hoL1:=opIs hoL (p:=.store 68 (.tmp 42) (.tmp 41)) (by kernel_rfl)
     have hgL:=guardIs hoL (p:=none) (by kernel_rfl)
     have hdL:oL.dst=none:=by have:=(show ((regOf Tryz.f10 12)[9]?).map (·.dst)=some (none) by kernel_rfl); rw [hoL] at this; simpa using this
     rw [if_pos (wanted_free hgL)]
     rw [hdL] at hKL
     simp only [puts,Act.put,List.setIfInBounds_toArray,List.set_cons_succ,List.set_cons_zero] at hKL ⊢
     obtain⟨hC9,-⟩:=hCw11
     obtain⟨a3,c3,cells3,e11,hmade⟩:=t7.out
     subst e11
     have e3:=hmade.box.c3
     have k3:=hmade.box.free 3
     unfold Oper.wp
     rw [show (execOp _ oL).run Tryz.prog w11 = .ok .skip (w11.setCell ⟨w2.heap.size,3,none⟩ (.slice a3 (acc2.length+[numV ix].length) c3)) by unfold execOp; simp only [hoL1]; simp [go_sem,e3,k3]]
     show KL (Act.put _ oL.dst undef) _
     rw [hdL]
     refine hKL undef _ ?_
     have HMK:=Lib.hid hmade.store
     have HKN:=Lib.hid ((KP0.out.grown hC9 (by omega) (fun k hk=>.inl (HM0.out.own.lt k hk).1)).grown (grown_setCell w11 w2.heap.size 3 (.slice a3 (acc2.length+[numV ix].length) c3)) (by have:=hC9.size; have:=HM0.out.le; omega) (fun k hk=>.inr (Option.some.inj hk).symm))
     clear e3 k3 hmade t7 hC9 hKL hoL hoL1 hgL hdL hallL
     generalize w11.setCell ⟨w2.heap.size,3,none⟩ (.slice a3 (acc2.length+[numV ix].length) c3)=w12 at *
     go_wp2_with fail
     go_roundg (7 - 5)
     case rel=>exact⟨5,_,a3,c3,cells3,by omega,rfl,by go_num,Lib.hid (by rw [HA2.out,HACC.out]; rfl),HMK,HKN⟩
     case measure=>omega
   ·have HLI:Hid (acc.length≤8):=Lib.hid (by rw [HACC.out,List.length_take]; exact Nat.min_le_right _ 8)
    have hle:=hM.out.le
    rw [show ((5:Nat):Int)=5 from rfl]
    have hix:=ix7_5 w.heap.size
    go_wp2_with fail
    clear hix
    refine wp_region_lastE (regOf Tryz.f10 12) [some 34,some 35,some 36,some 37,some 38,some 39,some 40,some 41,some 42] 9 (npbT w4.heap.size w2.heap.size w.heap.size 6 lt va vc acc cells ((.cells #[.int .i64 kd,.int .i64 fr,.int .i64 ds,.int .i64 tm,.bool ok,.int .i64 ix,.int .i64 lt,.slice ar nr cr,.int .i64 cm,.string sn,.slice av nv cv] 25 (0,0))) wr) (fun e w'=>(wr.grownBy w' (Value.slice va acc.length vc).ownBlock)∧(e 7=none→MakingB w4.heap.size w2.heap.size acc va vc cells w')) npbD (by kernel_rfl) (by kernel_rfl) (by kernel_rfl) (by kernel_rfl) (by kernel_rfl) (by kernel_rfl) (by kernel_rfl) ⟨grown_of_below ((Below.refl _ _).drew) _,fun _=>hM.out.under ((Below.refl _ _).drew)⟩
     (npb_steps w4.heap.size w2.heap.size w.heap.size 6 lt va vc acc cells ((.cells #[.int .i64 kd,.int .i64 fr,.int .i64 ds,.int .i64 tm,.bool ok,.int .i64 ix,.int .i64 lt,.slice ar nr cr,.int .i64 cm,.string sn,.slice av nv cv] 25 (0,0))) wr (by have:=hM.out.le; omega) (HKr.out.lt) (fun e=>by have:=(hM.out.own.lt _ e.symm).1; omega) HKr.out (fun W hW=>(Lib.cell_of_heap hW 6).trans rfl) (fun k hk=>(hM.out.own.lt k hk).2) (by have:=HLI.out; omega) (by kernel_rfl) (by kernel_rfl) (by kernel_rfl) (by kernel_rfl)) ?_
    intro oL hoL eL vs w9 hn hallL hCw9 hT KL hKL
    replace hn:vs.length=9:=hn
    obtain⟨v0,vs1,rfl,hn1⟩:=len_cons hn
    obtain⟨v1,vs2,rfl,hn2⟩:=len_cons hn1
    obtain⟨v2,vs3,rfl,hn3⟩:=len_cons hn2
    obtain⟨v3,vs4,rfl,hn4⟩:=len_cons hn3
    obtain⟨v4,vs5,rfl,hn5⟩:=len_cons hn4
    obtain⟨v5,vs6,rfl,hn6⟩:=len_cons hn5
    obtain⟨v6,vs7,rfl,hn7⟩:=len_cons hn6
    obtain⟨v7,vs8,rfl,hn8⟩:=len_cons hn7
    obtain⟨v8,vs9,rfl,hn9⟩:=len_cons hn8
    obtain rfl:=List.eq_nil_of_length_eq_zero hn9
    clear hn hn1 hn2 hn3 hn4 hn5 hn6 hn7 hn8 hn9
    obtain rfl:v0 = .pointer (some ⟨w2.heap.size,3,none⟩):=hT 0 v0 rfl (by kernel_rfl)
    obtain rfl:v1 = .slice va acc.length vc:=hT 1 v1 rfl (by kernel_rfl)
    obtain rfl:v2 = .pointer (some ⟨w.heap.size,6,none⟩):=hT 2 v2 rfl (by kernel_rfl)
    obtain rfl:v3 = .pointer (some ⟨w.heap.size,6,none⟩):=hT 3 v3 rfl (by kernel_rfl)
    obtain rfl:v4 = .int .i64 lt:=hT 4 v4 rfl (by kernel_rfl)
    obtain rfl:v5 = .agg #[.int .i64 1,.int .i64 lt,.string ⟨#[]⟩,.slice none 0 0]:=hT 5 v5 rfl (by kernel_rfl)
    have t7:=Lib.hid (hT 7 v7 rfl (by kernel_rfl))
    obtain rfl:v8 = .pointer (some ⟨w2.heap.size,3,none⟩):=hT 8 v8 rfl (by kernel_rfl)
    clear hT
    have hoL1:=opIs hoL (p:=.store 68 (.tmp 42) (.tmp 41)) (by kernel_rfl)
    have hgL:=guardIs hoL (p:=none) (by kernel_rfl)
    have hdL:oL.dst=none:=by have:=(show ((regOf Tryz.f10 12)[9]?).map (·.dst)=some (none) by kernel_rfl); rw [hoL] at this; simpa using this
    rw [if_pos (wanted_free hgL)]
    rw [hdL] at hKL
    simp only [puts,Act.put,List.setIfInBounds_toArray,List.set_cons_succ,List.set_cons_zero] at hKL ⊢
    obtain⟨hC9,-⟩:=hCw9
    obtain⟨a3,c3,cells3,e11,hmade⟩:=t7.out
    subst e11
    have e3:=hmade.box.c3
    have k3:=hmade.box.free 3
    unfold Oper.wp
    rw [show (execOp _ oL).run Tryz.prog w9 = .ok .skip (w9.setCell ⟨w2.heap.size,3,none⟩ (.slice a3 (acc.length+[numV lt].length) c3)) by unfold execOp; simp only [hoL1]; simp [go_sem,e3,k3]]
    show KL (Act.put _ oL.dst undef) _
    rw [hdL]
    refine hKL undef _ ?_
    have HMK:=Lib.hid hmade.store
    have HKN:=Lib.hid ((hKP.out.grown hC9 (by omega) (fun k hk=>.inl (hM.out.own.lt k hk).1)).grown (grown_setCell w9 w2.heap.size 3 (.slice a3 (acc.length+[numV lt].length) c3)) (by have:=hC9.size; have:=hM.out.le; omega) (fun k hk=>.inr (Option.some.inj hk).symm))
    clear e3 k3 hmade t7 hC9 hKL hoL hoL1 hgL hdL hallL
    generalize w9.setCell ⟨w2.heap.size,3,none⟩ (.slice a3 (acc.length+[numV lt].length) c3)=w10 at *
    go_wp2_with fail
    go_roundg (7 - 6)
    case rel=>exact⟨6,_,a3,c3,cells3,by omega,rfl,by go_num,Lib.hid (by rw [HACC.out]; rfl),HMK,HKN⟩
    case measure=>omega
   ·have HLI:Hid (acc.length≤8):=Lib.hid (by rw [HACC.out,List.length_take]; exact Nat.min_le_right _ 8)
    have hle:=hM.out.le
    rw [show ((6:Nat):Int)=6 from rfl]
    have hix:=ix7_6 w.heap.size
    go_wp2_with fail
    clear hix
    refine wp_region_lastE (regOf Tryz.f10 12) [some 34,some 35,some 36,some 37,some 38,some 39,some 40,some 41,some 42] 9 (npbT w4.heap.size w2.heap.size w.heap.size 8 cm va vc acc cells ((.cells #[.int .i64 kd,.int .i64 fr,.int .i64 ds,.int .i64 tm,.bool ok,.int .i64 ix,.int .i64 lt,.slice ar nr cr,.int .i64 cm,.string sn,.slice av nv cv] 25 (0,0))) wr) (fun e w'=>(wr.grownBy w' (Value.slice va acc.length vc).ownBlock)∧(e 7=none→MakingB w4.heap.size w2.heap.size acc va vc cells w')) npbD (by kernel_rfl) (by kernel_rfl) (by kernel_rfl) (by kernel_rfl) (by kernel_rfl) (by kernel_rfl) (by kernel_rfl) ⟨grown_of_below ((Below.refl _ _).drew) _,fun _=>hM.out.under ((Below.refl _ _).drew)⟩
     (npb_steps w4.heap.size w2.heap.size w.heap.size 8 cm va vc acc cells ((.cells #[.int .i64 kd,.int .i64 fr,.int .i64 ds,.int .i64 tm,.bool ok,.int .i64 ix,.int .i64 lt,.slice ar nr cr,.int .i64 cm,.string sn,.slice av nv cv] 25 (0,0))) wr (by have:=hM.out.le; omega) (HKr.out.lt) (fun e=>by have:=(hM.out.own.lt _ e.symm).1; omega) HKr.out (fun W hW=>(Lib.cell_of_heap hW 8).trans rfl) (fun k hk=>(hM.out.own.lt k hk).2) (by have:=HLI.out; omega) (by kernel_rfl) (by kernel_rfl) (by kernel_rfl) (by kernel_rfl)) ?_
    intro oL hoL eL vs w9 hn hallL hCw9 hT KL hKL
    replace hn:vs.length=9:=hn
    obtain⟨v0,vs1,rfl,hn1⟩:=len_cons hn
    obtain⟨v1,vs2,rfl,hn2⟩:=len_cons hn1
    obtain⟨v2,vs3,rfl,hn3⟩:=len_cons hn2
    obtain⟨v3,vs4,rfl,hn4⟩:=len_cons hn3
    obtain⟨v4,vs5,rfl,hn5⟩:=len_cons hn4
    obtain⟨v5,vs6,rfl,hn6⟩:=len_cons hn5
    obtain⟨v6,vs7,rfl,hn7⟩:=len_cons hn6
    obtain⟨v7,vs8,rfl,hn8⟩:=len_cons hn7
    obtain⟨v8,vs9,rfl,hn9⟩:=len_cons hn8
    obtain rfl:=List.eq_nil_of_length_eq_zero hn9
    clear hn hn1 hn2 hn3 hn4 hn5 hn6 hn7 hn8 hn9
    obtain rfl:v0 = .pointer (some ⟨w2.heap.size,3,none⟩):=hT 0 v0 rfl (by kernel_rfl)
    obtain rfl:v1 = .slice va acc.length vc:=hT 1 v1 rfl (by kernel_rfl)
    obtain rfl:v2 = .pointer (some ⟨w.heap.size,8,none⟩):=hT 2 v2 rfl (by kernel_rfl)
    obtain rfl:v3 = .pointer (some ⟨w.heap.size,8,none⟩):=hT 3 v3 rfl (by kernel_rfl)
    obtain rfl:v4 = .int .i64 cm:=hT 4 v4 rfl (by kernel_rfl)
    obtain rfl:v5 = .agg #[.int .i64 1,.int .i64 cm,.string ⟨#[]⟩,.slice none 0 0]:=hT 5 v5 rfl (by kernel_rfl)
    have t7:=Lib.hid (hT 7 v7 rfl (by kernel_rfl))
    obtain rfl:v8 = .pointer (some ⟨w2.heap.size,3,none⟩):=hT 8 v8 rfl (by kernel_rfl)
    clear hT
    have hoL1:=opIs hoL (p:=.store 68 (.tmp 42) (.tmp 41)) (by kernel_rfl)
    have hgL:=guardIs hoL (p:=none) (by kernel_rfl)
    have hdL:oL.dst=none:=by have:=(show ((regOf Tryz.f10 12)[9]?).map (·.dst)=some (none) by kernel_rfl); rw [hoL] at this; simpa using this
    rw [if_pos (wanted_free hgL)]
    rw [hdL] at hKL
    simp only [puts,Act.put,List.setIfInBounds_toArray,List.set_cons_succ,List.set_cons_zero] at hKL ⊢
    obtain⟨hC9,-⟩:=hCw9
    obtain⟨a3,c3,cells3,e11,hmade⟩:=t7.out
    subst e11
    have e3:=hmade.box.c3
    have k3:=hmade.box.free 3
    unfold Oper.wp
    rw [show (execOp _ oL).run Tryz.prog w9 = .ok .skip (w9.setCell ⟨w2.heap.size,3,none⟩ (.slice a3 (acc.length+[numV cm].length) c3)) by unfold execOp; simp only [hoL1]; simp [go_sem,e3,k3]]
    show KL (Act.put _ oL.dst undef) _
    rw [hdL]
    refine hKL undef _ ?_
    have HMK:=Lib.hid hmade.store
    have HKN:=Lib.hid ((hKP.out.grown hC9 (by omega) (fun k hk=>.inl (hM.out.own.lt k hk).1)).grown (grown_setCell w9 w2.heap.size 3 (.slice a3 (acc.length+[numV cm].length) c3)) (by have:=hC9.size; have:=hM.out.le; omega) (fun k hk=>.inr (Option.some.inj hk).symm))
    clear e3 k3 hmade t7 hC9 hKL hoL hoL1 hgL hdL hallL
    generalize w9.setCell ⟨w2.heap.size,3,none⟩ (.slice a3 (acc.length+[numV cm].length) c3)=w10 at *
    go_wp2_with fail
    go_roundg (7 - 7)
    case rel=>exact⟨7,_,a3,c3,cells3,by omega,rfl,by go_num,Lib.hid (by rw [HACC.out]; rfl),HMK,HKN⟩
    case measure=>omega
  ·obtain rfl:k=7:=by omega
   have HACC8:Hid (acc=nums8 kd fr ds tm (okI ok) ix lt cm):=Lib.hid (by rw [HACC.out]; rfl)
   have HLI:Hid (acc.length=8):=Lib.hid (by rw [HACC8.out]; rfl)
   obtain⟨wr1,hwr1⟩:∃ x,x=wr:=⟨_,rfl⟩
   subst hwr1
   rw [show ((7:Nat):Int)=7 from rfl]
   have hle:=hM.out.le
   clear HACC hk hk7 HKr
   go_wp2_with fail
   refine (nlist_any none 0 0 wr1).mono ?_
   rintro e w5 ⟨rfl,hb5⟩
   dsimp only
   have HM5:=Lib.hid (hM.out.under hb5)
   have KP5:=Lib.hid (hKP.out.under hb5 hle)
   clear hb5 hM hKP
   go_wp2_with fail
   refine (nlist_any none 0 0 w5).mono ?_
   rintro e w6 ⟨rfl,hb6⟩
   dsimp only
   have HM6:=Lib.hid (HM5.out.under hb6)
   have KP6:=Lib.hid (KP5.out.under hb6 HM5.out.le)
   have hbA:Below w6.heap.size w6 ((w6.alloc (.cells #[.int .i64 3,.int .i64 0,.string ⟨#[]⟩,.slice none 0 0] 70)).alloc (.cells #[.int .i64 3,.int .i64 0,.string ⟨#[]⟩,.slice none 0 0] 70)):=((Below.refl _ w6).alloc (Nat.le_refl _) _).alloc (by simp) _
   have HBA:=Lib.hid hbA
   have KP8:=Lib.hid (KP6.out.under hbA HM6.out.le)
   have HF5:Hid (Four ((w6.alloc (.cells #[.int .i64 3,.int .i64 0,.string ⟨#[]⟩,.slice none 0 0] 70)).alloc (.cells #[.int .i64 3,.int .i64 0,.string ⟨#[]⟩,.slice none 0 0] 70)) w6.heap.size 70 (.int .i64 3) (.int .i64 0) (.string ⟨#[]⟩) (.slice none 0 0)):=Lib.hid ((Four.new w6 _ _ _ _ _).alloc _)
   have HF6:Hid (Four ((w6.alloc (.cells #[.int .i64 3,.int .i64 0,.string ⟨#[]⟩,.slice none 0 0] 70)).alloc (.cells #[.int .i64 3,.int .i64 0,.string ⟨#[]⟩,.slice none 0 0] 70)) (w6.heap.size+1) 70 (.int .i64 3) (.int .i64 0) (.string ⟨#[]⟩) (.slice none 0 0)):=Lib.hid (by
    have:=Four.new (w6.alloc (.cells #[.int .i64 3,.int .i64 0,.string ⟨#[]⟩,.slice none 0 0] 70)) 70 (.int .i64 3) (.int .i64 0) (.string ⟨#[]⟩) (.slice none 0 0)
    rwa [World.size_alloc] at this)
   have HS8:Hid (((w6.alloc (.cells #[.int .i64 3,.int .i64 0,.string ⟨#[]⟩,.slice none 0 0] 70)).alloc (.cells #[.int .i64 3,.int .i64 0,.string ⟨#[]⟩,.slice none 0 0] 70)).heap.size=w6.heap.size+2):=Lib.hid (by simp)
   have hs6:=HM6.out.le
   have HK8:=Lib.hid (show Blk ((w6.alloc (.cells #[.int .i64 3,.int .i64 0,.string ⟨#[]⟩,.slice none 0 0] 70)).alloc (.cells #[.int .i64 3,.int .i64 0,.string ⟨#[]⟩,.slice none 0 0] 70)) _ _ _ from (KP8.out.block _ (by omega) (by omega)).trans HK4.out)
   have HB8:=Lib.hid (HB4.out.trans (KP8.out.below (B:=w.heap.size) (by omega) (by omega)))
   have x10:=HK8.out.cell (j:=10) rfl
   have HVO:=Lib.hid (show SlAt w av nv (i64s vs) from H.out.voters)
   have HRO:=Lib.hid (show rcE.Sl w ar nr rs from H.out.recs)
   clear hb6 hbA HM5 KP5 KP6
   go_wp2_with fail
   clear x10
   generalize ((w6.alloc (.cells #[.int .i64 3,.int .i64 0,.string ⟨#[]⟩,.slice none 0 0] 70)).alloc (.cells #[.int .i64 3,.int .i64 0,.string ⟨#[]⟩,.slice none 0 0] 70))=w8 at *
   have hs8:=HS8.out
   have HMV:Hid (MakingB w8.heap.size w6.heap.size [] none 0 [] w8):=Lib.hid (MakingB.start _ _ _ (by omega) (Nat.le_refl _) HF5.out)
   replace HS8:=Lib.hid hs8
   clear hs8
   go_loopg [49] nv (fun gk v wr=>∃ (k:Nat) (acc2:List V) (va2:Option Addr) (vc2:Nat) (cells2:List Value),k≤nv∧gk=nv - k∧v = .int .i64 (k:Int)∧Hid (acc2=(vs.take k).map numV)∧Hid (MakingB w8.heap.size w6.heap.size acc2 va2 vc2 cells2 wr)∧Hid (KeptB w8.heap.size w6.heap.size w8 wr))
   case atStart=>exact⟨0,[],none,0,[],Nat.zero_le _,rfl,rfl,Lib.hid rfl,HMV,Lib.hid (KeptB.refl _ _ _)⟩
   case round =>
    clear HMV
    obtain⟨k,acc2,va2,vc2,cells2,hk,rfl,rfl,HACC2,hM2,hKP2⟩:=hrel
    have HL2:Hid (acc2.length=k):=Lib.hid (by rw [HACC2.out,List.length_map,List.length_take]; have:=HNV.out; omega)
    have HBr:=Lib.hid (HB8.out.trans (hKP2.out.below (B:=w.heap.size) (by omega) (by have:=HS8.out; omega)))
    by_cases hkn:k<nv
    ·have hki:(k:Int)<(nv:Int):=by omega
     have hkl:k<vs.length:=by rw [← HNV.out]; exact hkn
     obtain⟨-,b,off,rfl,hc⟩:=(HVO.out.keep HBr.out).i64 (by omega)
     have c0:=hc k hkl
     have HLI2:Hid (acc2.length≤7):=Lib.hid (by have:=HL2.out; have:=HFEW.out.1; omega)
     have HMT:Hid (acc2++[numV vs[k]]=(vs.take (k+1)).map numV):=Lib.hid (by rw [HACC2.out,List.take_add_one,List.getElem?_eq_getElem hkl,List.map_append]; rfl)
     clear hc
     generalize vs[k]=xv at *
     go_wp2_with fail
     clear c0
     refine wp_region_lastE (regOf Tryz.f10 18) [some 53,some 54,some 55,some 56,some 57,some 58,some 59] 7 (npcT w8.heap.size w6.heap.size xv va2 vc2 acc2 cells2 wr) (fun e w'=>(wr.grownBy w' (Value.slice va2 acc2.length vc2).ownBlock)∧(e 5=none→MakingB w8.heap.size w6.heap.size acc2 va2 vc2 cells2 w')) npcD (by kernel_rfl) (by kernel_rfl) (by kernel_rfl) (by kernel_rfl) (by kernel_rfl) (by kernel_rfl) (by kernel_rfl) ⟨grown_of_below ((Below.refl _ _).drew) _,fun _=>hM2.out.under ((Below.refl _ _).drew)⟩
      (npc_steps w8.heap.size w6.heap.size xv va2 vc2 acc2 cells2 wr (hM2.out.le) (fun k hk=>(hM2.out.own.lt k hk).2) (by have:=HLI2.out; omega) (by kernel_rfl) (by kernel_rfl) (by kernel_rfl) (by kernel_rfl)) ?_
     intro oL hoL eL vs w9 hn hallL hCw9 hT KL hKL
     replace hn:vs.length=7:=hn
     obtain⟨v0,vs1,rfl,hn1⟩:=len_cons hn
     obtain⟨v1,vs2,rfl,hn2⟩:=len_cons hn1
     obtain⟨v2,vs3,rfl,hn3⟩:=len_cons hn2
     obtain⟨v3,vs4,rfl,hn4⟩:=len_cons hn3
     obtain⟨v4,vs5,rfl,hn5⟩:=len_cons hn4
     obtain⟨v5,vs6,rfl,hn6⟩:=len_cons hn5
     obtain⟨v6,vs7,rfl,hn7⟩:=len_cons hn6
     obtain rfl:=List.eq_nil_of_length_eq_zero hn7
     clear hn hn1 hn2 hn3 hn4 hn5 hn6 hn7
     obtain rfl:v0 = .pointer (some ⟨w6.heap.size,3,none⟩):=hT 0 v0 rfl (by kernel_rfl)
     obtain rfl:v1 = .slice va2 acc2.length vc2:=hT 1 v1 rfl (by kernel_rfl)
     obtain rfl:v2 = .int .i64 xv:=hT 2 v2 rfl (by kernel_rfl)
     obtain rfl:v3 = .agg #[.int .i64 1,.int .i64 xv,.string ⟨#[]⟩,.slice none 0 0]:=hT 3 v3 rfl (by kernel_rfl)
     have t5:=Lib.hid (hT 5 v5 rfl (by kernel_rfl))
     obtain rfl:v6 = .pointer (some ⟨w6.heap.size,3,none⟩):=hT 6 v6 rfl (by kernel_rfl)
     clear hT
     have hoL1:=opIs hoL (p:=.store 68 (.tmp 59) (.tmp 58)) (by kernel_rfl)
     have hgL:=guardIs hoL (p:=none) (by kernel_rfl)
     have hdL:oL.dst=none:=by have:=(show ((regOf Tryz.f10 18)[7]?).map (·.dst)=some (none) by kernel_rfl); rw [hoL] at this; simpa using this
     rw [if_pos (wanted_free hgL)]
     rw [hdL] at hKL
     simp only [puts,Act.put,List.setIfInBounds_toArray,List.set_cons_succ,List.set_cons_zero] at hKL ⊢
     obtain⟨hC9,-⟩:=hCw9
     obtain⟨a3,c3,cells3,e11,hmade⟩:=t5.out
     subst e11
     have e3:=hmade.box.c3
     have k3:=hmade.box.free 3
     unfold Oper.wp
     rw [show (execOp _ oL).run Tryz.prog w9 = .ok .skip (w9.setCell ⟨w6.heap.size,3,none⟩ (.slice a3 (acc2.length+[numV xv].length) c3)) by unfold execOp; simp only [hoL1]; simp [go_sem,e3,k3]]
     show KL (Act.put _ oL.dst undef) _
     rw [hdL]
     refine hKL undef _ ?_
     have HMK:=Lib.hid hmade.store
     have HKN:=Lib.hid ((hKP2.out.grown hC9 (by have:=hM2.out.le; omega) (fun k hk=>.inl (hM2.out.own.lt k hk).1)).grown (grown_setCell w9 w6.heap.size 3 (.slice a3 (acc2.length+[numV xv].length) c3)) (by have:=hC9.size; have:=hM2.out.le; omega) (fun k hk=>.inr (Option.some.inj hk).symm))
     clear e3 k3 hmade t5 hC9 hKL hoL hoL1 hgL hdL hallL
     generalize w9.setCell ⟨w6.heap.size,3,none⟩ (.slice a3 (acc2.length+[numV xv].length) c3)=w10 at *
     go_wp2_with fail
     go_roundg (nv - (k+1))
     case rel=>exact⟨k+1,_,a3,c3,cells3,by omega,rfl,by go_num,HMT,HMK,HKN⟩
     case measure=>omega
    ·obtain rfl:k=nv:=by omega
     have HACV:Hid (acc2=vs.map numV):=Lib.hid (by rw [HACC2.out,HNV.out,List.take_length])
     obtain⟨w9,hw9⟩:∃ x,x=wr:=⟨_,rfl⟩
     subst hw9
     have HB9:=HBr
     have HK9:=Lib.hid (show Blk w9 _ _ _ from (hKP2.out.block _ (by have:=HS8.out; omega) (by omega)).trans HK8.out)
     have hs9:=hM2.out.le
     have HM9:=Lib.hid (HM6.out.under (HBA.out.trans (hKP2.out.below (B:=w6.heap.size) (Nat.le_refl _) (by have:=HS8.out; omega))))
     have HF9:=Lib.hid (show Four w9 (w6.heap.size+1) _ _ _ _ _ from (hKP2.out.block _ (by have:=HS8.out; omega) (by omega)).trans HF6.out)
     have HM3:Hid (MakingB w9.heap.size (w6.heap.size+1) [] none 0 [] w9):=Lib.hid (MakingB.start _ _ _ (by have:=HS8.out; omega) (Nat.le_refl _) HF9.out)
     have x7:=HK9.out.cell (j:=7) rfl
     clear HACC2 hk hkn HBr
     go_wp2_with fail
     clear x7
     go_loopg [64] nr (fun gk v wr=>∃ (k:Nat) (acc3:List V) (va3:Option Addr) (vc3:Nat) (cells3:List Value),k≤nr∧gk=nr - k∧v = .int .i64 (k:Int)∧Hid (acc3=(rs.take k).map recV)∧Hid (MakingB w9.heap.size (w6.heap.size+1) acc3 va3 vc3 cells3 wr)∧Hid (KeptB w9.heap.size (w6.heap.size+1) w9 wr))
     case atStart=>exact⟨0,[],none,0,[],Nat.zero_le _,rfl,rfl,Lib.hid rfl,HM3,Lib.hid (KeptB.refl _ _ _)⟩
     case round =>
      clear HM3
      obtain⟨k,acc3,va3,vc3,cells3,hk,rfl,rfl,HACC3,hM3,hKP3⟩:=hrel
      have HL3:Hid (acc3.length=k):=Lib.hid (by rw [HACC3.out,List.length_map,List.length_take]; have:=HN.out; omega)
      have HBr:=Lib.hid (HB9.out.trans (hKP3.out.below (B:=w.heap.size) (by omega) (by have:=HB9.out.size; omega)))
      by_cases hkn:k<nr
      ·have hki:(k:Int)<(nr:Int):=by omega
       have hkl:k<rs.length:=by rw [← HN.out]; exact hkn
       obtain⟨b,off,rfl,hc⟩:=rc_at (HRO.out.keep HBr.out) (by omega)
       obtain⟨c0,c1,c2⟩:=hc k hkl
       have HLI3:Hid (acc3.length≤20):=Lib.hid (by have:=HL3.out; have:=HFEW.out.2.1; omega)
       have HMT:Hid (acc3++[recV rs[k]]=(rs.take (k+1)).map recV):=Lib.hid (by rw [HACC3.out,List.take_add_one,List.getElem?_eq_getElem hkl,List.map_append]; rfl)
       clear hc
       generalize rs[k]=r at *
       obtain⟨rt,rk,rd⟩:=r
       dsimp only at c0 c1 c2
       have hbq:Below wr.heap.size wr (wr.alloc (.cells #[.int .i64 rt,.int .i64 rk,.string rd] 67)):=(Below.refl _ wr).alloc (Nat.le_refl _) _
       have HMq:=Lib.hid (hM3.out.under hbq)
       have KPq:=Lib.hid (hKP3.out.under hbq hM3.out.le)
       have HRq:Hid ((wr.alloc (.cells #[.int .i64 rt,.int .i64 rk,.string rd] 67)).heap[wr.heap.size]? = some (.cells #[.int .i64 rt,.int .i64 rk,.string rd] 67 (0,0))):=Lib.hid (heap_alloc_new wr _)
       have HOL:=Lib.hid hM3.out.own.lt
       have hsq:wr.heap.size<(wr.alloc (.cells #[.int .i64 rt,.int .i64 rk,.string rd] 67)).heap.size:=by simp
       have HSQ:=Lib.hid hsq
       clear hbq hM3 hKP3 hsq
       go_wp2_with fail
       clear c0 c1 c2
       generalize (wr.alloc (.cells #[.int .i64 rt,.int .i64 rk,.string rd] 67))=wq at *
       refine wp_region_lastE (regOf Tryz.f10 23) [some 68,some 69,some 70,some 71,some 72,some 73,some 74,some 75,some 76,some 77,some 78,some 79,some 80,some 81,some 82,some 83] 16 (npdT w9.heap.size ((w6.heap.size+1)) wr.heap.size rt rk rd va3 vc3 acc3 cells3 wq) (fun e w'=>(wq.grownBy w' (Value.slice va3 acc3.length vc3).ownBlock)∧(e 14=none→MakingB w9.heap.size ((w6.heap.size+1)) acc3 va3 vc3 cells3 w')) npdD (by kernel_rfl) (by kernel_rfl) (by kernel_rfl) (by kernel_rfl) (by kernel_rfl) (by kernel_rfl) (by kernel_rfl) ⟨grown_of_below ((Below.refl _ _).drew) _,fun _=>HMq.out.under ((Below.refl _ _).drew)⟩
        (npd_steps w9.heap.size ((w6.heap.size+1)) wr.heap.size rt rk rd va3 vc3 acc3 cells3 wq (HMq.out.le) (HSQ.out) (fun e=>by have:=(HOL.out _ e.symm).2; omega) HRq.out (fun k hk=>(HMq.out.own.lt k hk).2) (by have:=HLI3.out; omega) (by kernel_rfl) (by kernel_rfl) (by kernel_rfl) (by kernel_rfl)) ?_
       intro oL hoL eL vs w11 hn hallL hCw11 hT KL hKL
       replace hn:vs.length=16:=hn
       obtain⟨v0,vs1,rfl,hn1⟩:=len_cons hn
       obtain⟨v1,vs2,rfl,hn2⟩:=len_cons hn1
       obtain⟨v2,vs3,rfl,hn3⟩:=len_cons hn2
       obtain⟨v3,vs4,rfl,hn4⟩:=len_cons hn3
       obtain⟨v4,vs5,rfl,hn5⟩:=len_cons hn4
       obtain⟨v5,vs6,rfl,hn6⟩:=len_cons hn5
       obtain⟨v6,vs7,rfl,hn7⟩:=len_cons hn6
       obtain⟨v7,vs8,rfl,hn8⟩:=len_cons hn7
       obtain⟨v8,vs9,rfl,hn9⟩:=len_cons hn8
       obtain⟨v9,vs10,rfl,hn10⟩:=len_cons hn9
       obtain⟨v10,vs11,rfl,hn11⟩:=len_cons hn10
       obtain⟨v11,vs12,rfl,hn12⟩:=len_cons hn11
       obtain⟨v12,vs13,rfl,hn13⟩:=len_cons hn12
       obtain⟨v13,vs14,rfl,hn14⟩:=len_cons hn13
       obtain⟨v14,vs15,rfl,hn15⟩:=len_cons hn14
       obtain⟨v15,vs16,rfl,hn16⟩:=len_cons hn15
       obtain rfl:=List.eq_nil_of_length_eq_zero hn16
       clear hn hn1 hn2 hn3 hn4 hn5 hn6 hn7 hn8 hn9 hn10 hn11 hn12 hn13 hn14 hn15 hn16
       obtain rfl:v0 = .pointer (some ⟨(w6.heap.size+1),3,none⟩):=hT 0 v0 rfl (by kernel_rfl)
       obtain rfl:v1 = .slice va3 acc3.length vc3:=hT 1 v1 rfl (by kernel_rfl)
       obtain rfl:v2 = .pointer (some ⟨wr.heap.size,0,none⟩):=hT 2 v2 rfl (by kernel_rfl)
       obtain rfl:v3 = .int .i64 rt:=hT 3 v3 rfl (by kernel_rfl)
       obtain rfl:v4 = .agg #[.int .i64 1,.int .i64 rt,.string ⟨#[]⟩,.slice none 0 0]:=hT 4 v4 rfl (by kernel_rfl)
       obtain rfl:v5 = .pointer (some ⟨wr.heap.size,1,none⟩):=hT 5 v5 rfl (by kernel_rfl)
       obtain rfl:v6 = .int .i64 rk:=hT 6 v6 rfl (by kernel_rfl)
       obtain rfl:v7 = .agg #[.int .i64 1,.int .i64 rk,.string ⟨#[]⟩,.slice none 0 0]:=hT 7 v7 rfl (by kernel_rfl)
       obtain rfl:v8 = .pointer (some ⟨wr.heap.size,2,none⟩):=hT 8 v8 rfl (by kernel_rfl)
       obtain rfl:v9 = .string rd:=hT 9 v9 rfl (by kernel_rfl)
       obtain rfl:v10 = .agg #[.int .i64 2,.int .i64 0,.string rd,.slice none 0 0]:=hT 10 v10 rfl (by kernel_rfl)
       have t11:=Lib.hid (hT 11 v11 rfl (by kernel_rfl))
       have t12:=Lib.hid (hT 12 v12 rfl (by kernel_rfl))
       have t14:=Lib.hid (hT 14 v14 rfl (by kernel_rfl))
       obtain rfl:v15 = .pointer (some ⟨(w6.heap.size+1),3,none⟩):=hT 15 v15 rfl (by kernel_rfl)
       clear hT
       have hoL1:=opIs hoL (p:=.store 68 (.tmp 83) (.tmp 82)) (by kernel_rfl)
       have hgL:=guardIs hoL (p:=none) (by kernel_rfl)
       have hdL:oL.dst=none:=by have:=(show ((regOf Tryz.f10 23)[16]?).map (·.dst)=some (none) by kernel_rfl); rw [hoL] at this; simpa using this
       rw [if_pos (wanted_free hgL)]
       rw [hdL] at hKL
       simp only [puts,Act.put,List.setIfInBounds_toArray,List.set_cons_succ,List.set_cons_zero] at hKL ⊢
       obtain⟨hC9,-⟩:=hCw11
       obtain⟨a3,c3,cells3,e11,hmade⟩:=t14.out
       subst e11
       have e3:=hmade.box.c3
       have k3:=hmade.box.free 3
       unfold Oper.wp
       rw [show (execOp _ oL).run Tryz.prog w11 = .ok .skip (w11.setCell ⟨(w6.heap.size+1),3,none⟩ (.slice a3 (acc3.length+[recV ⟨rt,rk,rd⟩].length) c3)) by unfold execOp; simp only [hoL1]; simp [go_sem,e3,k3]]
       show KL (Act.put _ oL.dst undef) _
       rw [hdL]
       refine hKL undef _ ?_
       have HMK:=Lib.hid hmade.store
       have HKN:=Lib.hid ((KPq.out.grown hC9 (by have:=HMq.out.le; omega) (fun k hk=>.inl (HMq.out.own.lt k hk).1)).grown (grown_setCell w11 ((w6.heap.size+1)) 3 (.slice a3 (acc3.length+[recV ⟨rt,rk,rd⟩].length) c3)) (by have:=hC9.size; have:=HMq.out.le; omega) (fun k hk=>.inr (Option.some.inj hk).symm))
       clear e3 k3 hmade t11 t12 t14 hC9 hKL hoL hoL1 hgL hdL hallL
       generalize w11.setCell ⟨(w6.heap.size+1),3,none⟩ (.slice a3 (acc3.length+[recV ⟨rt,rk,rd⟩].length) c3)=w12 at *
       go_wp2_with fail
       go_roundg (nr - (k+1))
       case rel=>exact⟨k+1,_,a3,c3,cells3,by omega,rfl,by go_num,HMT,HMK,HKN⟩
       case measure=>omega
      ·obtain rfl:k=nr:=by omega
       have HACR:Hid (acc3=rs.map recV):=Lib.hid (by rw [HACC3.out,HN.out,List.take_length])
       have HMvv:=Lib.hid (HM6.out.under ((HBA.out.trans (hKP2.out.below (B:=w6.heap.size) (Nat.le_refl _) (by have:=HS8.out; omega))).trans (hKP3.out.below (B:=w6.heap.size) (by omega) (by have:=HS8.out; omega))))
       have HMvo:=Lib.hid (hM2.out.kept hKP3.out (by have:=HS8.out; omega) (by omega))
       have HKz:=Lib.hid (show Blk wr _ _ _ from (hKP3.out.block _ (by have:=HB9.out.size; have:=HK9.out.lt; omega) (by omega)).trans HK9.out)
       have x9:=HKz.out.cell (j:=9) rfl
       have e3:=HMvv.out.box.c3
       have y0:=HMvo.out.box.c0
       have y1:=HMvo.out.box.c1
       have y2:=HMvo.out.box.c2
       have y3:=HMvo.out.box.c3
       have z0:=hM3.out.box.c0
       have z1:=hM3.out.box.c1
       have z2:=hM3.out.box.c2
       have z3:=hM3.out.box.c3
       have hbA:Below wr.heap.size wr (wr.alloc (.cells #[.int .i64 2,.int .i64 0,.string sn,.slice none 0 0,.int .i64 3,.int .i64 0,.string ⟨#[]⟩,.slice va2 acc2.length vc2,.int .i64 3,.int .i64 0,.string ⟨#[]⟩,.slice va3 acc3.length vc3] 70)):=(Below.refl _ wr).alloc (Nat.le_refl _) _
       have HMA:=Lib.hid (HMvv.out.under hbA)
       have HSA:Hid ((wr.alloc (.cells #[.int .i64 2,.int .i64 0,.string sn,.slice none 0 0,.int .i64 3,.int .i64 0,.string ⟨#[]⟩,.slice va2 acc2.length vc2,.int .i64 3,.int .i64 0,.string ⟨#[]⟩,.slice va3 acc3.length vc3] 70)).heap.size=wr.heap.size+1):=Lib.hid (by simp)
       have hrow:RowOf (wr.alloc (.cells #[.int .i64 2,.int .i64 0,.string sn,.slice none 0 0,.int .i64 3,.int .i64 0,.string ⟨#[]⟩,.slice va2 acc2.length vc2,.int .i64 3,.int .i64 0,.string ⟨#[]⟩,.slice va3 acc3.length vc3] 70)) (fun b=>w8.heap.size≤b∧b<(wr.alloc (.cells #[.int .i64 2,.int .i64 0,.string sn,.slice none 0 0,.int .i64 3,.int .i64 0,.string ⟨#[]⟩,.slice va2 acc2.length vc2,.int .i64 3,.int .i64 0,.string ⟨#[]⟩,.slice va3 acc3.length vc3] 70)).heap.size) [textV sn,listV acc2,listV acc3] [.int .i64 2,.int .i64 0,.string sn,.slice none 0 0,.int .i64 3,.int .i64 0,.string ⟨#[]⟩,.slice va2 acc2.length vc2,.int .i64 3,.int .i64 0,.string ⟨#[]⟩,.slice va3 acc3.length vc3]:=by
        have h1:V.At (wr.alloc (.cells #[.int .i64 2,.int .i64 0,.string sn,.slice none 0 0,.int .i64 3,.int .i64 0,.string ⟨#[]⟩,.slice va2 acc2.length vc2,.int .i64 3,.int .i64 0,.string ⟨#[]⟩,.slice va3 acc3.length vc3] 70)) (fun b=>w8.heap.size≤b∧b<(wr.alloc (.cells #[.int .i64 2,.int .i64 0,.string sn,.slice none 0 0,.int .i64 3,.int .i64 0,.string ⟨#[]⟩,.slice va2 acc2.length vc2,.int .i64 3,.int .i64 0,.string ⟨#[]⟩,.slice va3 acc3.length vc3] 70)).heap.size) (textV sn) [.int .i64 2,.int .i64 0,.string sn,.slice none 0 0]:=by
         simp only [textV,V.At,VAll]
         exact⟨none,0,rfl,Nat.le_refl _,fun _=>rfl,trivial⟩
        have h2:=V.At.move (w':=(wr.alloc (.cells #[.int .i64 2,.int .i64 0,.string sn,.slice none 0 0,.int .i64 3,.int .i64 0,.string ⟨#[]⟩,.slice va2 acc2.length vc2,.int .i64 3,.int .i64 0,.string ⟨#[]⟩,.slice va3 acc3.length vc3] 70))) (T:=fun b=>w8.heap.size≤b∧b<(wr.alloc (.cells #[.int .i64 2,.int .i64 0,.string sn,.slice none 0 0,.int .i64 3,.int .i64 0,.string ⟨#[]⟩,.slice va2 acc2.length vc2,.int .i64 3,.int .i64 0,.string ⟨#[]⟩,.slice va3 acc3.length vc3] 70)).heap.size) (fun b hb=>⟨hb.1,by have:=hb.2; have:=HSA.out; omega⟩) (fun b hb=>heap_alloc_old wr _ hb.2) _ _ HMvo.out.at
        have h3:=V.At.move (w':=(wr.alloc (.cells #[.int .i64 2,.int .i64 0,.string sn,.slice none 0 0,.int .i64 3,.int .i64 0,.string ⟨#[]⟩,.slice va2 acc2.length vc2,.int .i64 3,.int .i64 0,.string ⟨#[]⟩,.slice va3 acc3.length vc3] 70))) (T:=fun b=>w8.heap.size≤b∧b<(wr.alloc (.cells #[.int .i64 2,.int .i64 0,.string sn,.slice none 0 0,.int .i64 3,.int .i64 0,.string ⟨#[]⟩,.slice va2 acc2.length vc2,.int .i64 3,.int .i64 0,.string ⟨#[]⟩,.slice va3 acc3.length vc3] 70)).heap.size) (fun b hb=>⟨by have:=hb.1; have:=hM2.out.le; omega,by have:=hb.2; have:=HSA.out; omega⟩) (fun b hb=>heap_alloc_old wr _ hb.2) _ _ hM3.out.at
        have h4:=((RowOf.nil.snoc h1).snoc h2).snoc h3
        exact h4
       obtain⟨a3,c3,cellsZ,w10,hr,hg10,hmade⟩:=makingB_append HMA.out [textV sn,listV acc2,listV acc3] [.int .i64 2,.int .i64 0,.string sn,.slice none 0 0,.int .i64 3,.int .i64 0,.string ⟨#[]⟩,.slice va2 acc2.length vc2,.int .i64 3,.int .i64 0,.string ⟨#[]⟩,.slice va3 acc3.length vc3] 3 wr.heap.size w8.heap.size 70 68 68 (by kernel_rfl) (heap_alloc_new wr _) rfl hrow (by have:=HS8.out; omega) (fun k hk=>by have:=(HM6.out.own.lt k hk).2; have:=HS8.out; omega) (by decide) (by decide) (by have:=HLI.out; omega)
       have HR:Hid ((Builtin.append_ #[68,68] 68 #[.slice va acc.length vc,.slice (some ⟨wr.heap.size,0,none⟩) 3 3]).run Tryz.prog (wr.alloc (.cells #[.int .i64 2,.int .i64 0,.string sn,.slice none 0 0,.int .i64 3,.int .i64 0,.string ⟨#[]⟩,.slice va2 acc2.length vc2,.int .i64 3,.int .i64 0,.string ⟨#[]⟩,.slice va3 acc3.length vc3] 70)) = .ok (.slice a3 (acc.length+3) c3) w10):=Lib.hid hr
       have HMD:=Lib.hid hmade
       have HMK0:Hid (MakingB w4.heap.size w2.heap.size (acc++[textV sn,listV acc2,listV acc3]) a3 c3 cellsZ (w10.setCell ⟨w2.heap.size,3,none⟩ (.slice a3 (acc.length+3) c3))):=Lib.hid hmade.store
       have HB10:=Lib.hid (((HBr.out.alloc HBr.out.size (.cells #[.int .i64 2,.int .i64 0,.string sn,.slice none 0 0,.int .i64 3,.int .i64 0,.string ⟨#[]⟩,.slice va2 acc2.length vc2,.int .i64 3,.int .i64 0,.string ⟨#[]⟩,.slice va3 acc3.length vc3] 70)).grown hg10 (by have:=HBr.out.size; have:=HSA.out; omega) (fun k e=>by have:=(HM6.out.own.lt k e).1; omega)).setCell (p:=⟨w2.heap.size,3,none⟩) (by show w.heap.size≤w2.heap.size; omega) (.slice a3 (acc.length+3) c3))
       clear hr hg10 hmade hrow hbA hM3 hKP3 hM2 hKP2 HMA
       go_wp2_with (at_builtin; refine Stop.go ?_)
       unfold Stop
       refine wpList_appB rfl _ _ 68 rfl _ _ rfl rfl _ _ HR.out ?_
       clear x9 y0 y1 y2 y3 z0 z1 z2 z3 e3 HR
       have e3:=HMD.out.box.c3
       have k3:=HMD.out.box.free 3
       clear HMD
       go_upto_region 26 with fail
       obtain⟨L,HL⟩:∃ l,Hid (l=acc++[textV sn,listV acc2,listV acc3]):=⟨_,Lib.hid rfl⟩
       rw [← HL.out] at HMK0
       clear e3 k3
       generalize w10.setCell ⟨w2.heap.size,3,none⟩ (.slice a3 (acc.length+3) c3)=w11 at *
       have hx:msV ⟨kd,fr,ds,tm,ok,ix,lt,rs,cm,sn,vs⟩=listV L:=by rw [HL.out,HACC8.out,HACV.out,HACR.out]; rfl
       have hsm:=HSM.out
       rw [hx] at hsm
       have HG2:Hid (g=putGot (listV L)):=Lib.hid (by rw [← hx]; exact hg.out)
       have hput:=Lib.hid (put_any _ (listV L) _ w11 (fun b (hb:_∧_)=>hb.2) HMK0.out.at hsm.1.1 hsm.2 hsm.1.2 (HT.out _ HB10.out) g HG2)
       have n0:=HMK0.out.box.c0
       have n1:=HMK0.out.box.c1
       have n2:=HMK0.out.box.c2
       have n3:=HMK0.out.box.c3
       clear hx hsm
       go_wp2_with fail
       refine hput.out.mono ?_
       rintro e w12 ⟨rfl,hb12⟩
       have HB12:=Lib.hid (HB10.out.trans (Below.lower hb12 HB10.out.size))
       clear hput hb12 n0 n1 n2 n3
       dsimp only
       go_wp2_with fail
       go_ret2
       exact⟨rfl,HB12.out⟩
theorem nput_any (m:Ms) (ar:Option Addr) (nr cr:Nat) (av:Option Addr) (nv cv:Nat) (w:World) (h:MsAt w m ar nr cr av nv cv) (htab:Lib.TabIs Tryz.prog w "internal/strconv.uint64pow10" .u64 Lib.pow10Tab) (g:ByteArray × Int) (hg:Hid (g=putM m)) :
 Calls Tryz.prog 10 #[m.val ar nr cr av nv cv] w (fun e w'=>e = .returned (.tuple #[.string g.1,.int .i64 g.2])∧Below w.heap.size w w'):=by
 obtain⟨kd,fr,ds,tm,ok,ix,lt,rs,cm,sn,vs⟩:=m
 unfold Ms.val
 dsimp only
 cases hm:mayM ⟨kd,fr,ds,tm,ok,ix,lt,rs,cm,sn,vs⟩ with
 | false =>
   obtain rfl:g=(⟨#[]⟩,1):=by rw [hg.out]; unfold putM; rw [hm]; rfl
   exact nput_bad kd fr ds tm ix lt cm ok rs sn vs ar nr cr av nv cv w h hm
 | true=>exact nput_may kd fr ds tm ix lt cm ok rs sn vs ar nr cr av nv cv w h htab hm g (Lib.hid (by rw [hg.out]; unfold putM; rw [if_pos hm]))
end Go.Proofs.YtlpgbmaoenncjaaGreatDoor

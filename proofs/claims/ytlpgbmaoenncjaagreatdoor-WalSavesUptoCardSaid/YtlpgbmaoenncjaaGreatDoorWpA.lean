/-
  The walks of wal.value, wal.Put and wal.Right: a state's value, and its bytes, or why it has none. (Written by wip/mkwp.py.)
-/
import Derived.Test.YtlpgbmaoenncjaaGreatDoorWvB
namespace Go.Proofs.YtlpgbmaoenncjaaGreatDoor
open Go.RowKit
set_option linter.unusedVariables false
theorem hdV_small {h:Hd}(hs:shapedH h=true):(hdV h).cnt≤4611686018427387904∧(putL (hdV h)).length≤140737488355328:=by
 obtain⟨⟨k1,k2,⟨k3,k4,k5,k6,-,k7,-⟩,k8,k9⟩,hv,hr⟩:=shaped_in hs
 constructor
 ·unfold hdV
  rw [listV_cnt]
  simp only [cntAll,numV_cnt,textV_cnt]
  have:=votersV_cnt h.voters
  have:=recsV_cnt h.recs
  omega
 ·unfold hdV
  rw [listV_len]
  simp only [putAll,List.length_append,List.length_nil]
  have e0:=numV_len (n:=h.term) (by omega) (by omega)
  have e1:=numV_len (n:=h.vote) (by omega) (by omega)
  have e2:=numV_len (n:=h.base) (by omega) (by omega)
  have e3:=numV_len (n:=h.bt) (by omega) (by omega)
  have e8:=textV_len (s:=h.snap) (by omega)
  have e9:=votersV_len (l:=h.voters) (fun x hx=>by have:=hv x hx; exact⟨by omega,by omega⟩)
  have e10:=recsV_len (l:=h.recs) (fun x hx=>by have:=hr x hx; exact⟨⟨⟨by omega,by omega⟩,⟨by omega,by omega⟩⟩,by omega⟩)
  omega
theorem listV_at {w:World}{S:Nat→Prop}{l:List V}{cells:List Value}{c n:Nat}(hS:S c) (hrow:RowOf w S l cells) (hb:w.heap[c]? = some (.cells cells.toArray 70 (0,0))) (hn:n=l.length):V.At w S (listV l) [.int .i64 3,.int .i64 0,.string ⟨#[]⟩,.slice (some ⟨c,0,none⟩) n n]:=by
 subst hn
 simp only [listV,V.At]
 exact⟨_,_,rfl,Nat.le_refl _,fun h=>(by cases h),hrow.all hS (fun j u hj=>(Lib.cell_of_heap hb j).trans (by simpa using hj))⟩
set_option maxRecDepth 100000 in
set_option maxHeartbeats 2000000 in
theorem wvalue_any (h:Hd) (ar:Option Addr) (nr cr:Nat) (av:Option Addr) (nv cv:Nat) (w:World) (H:HdAt w h ar nr cr av nv cv) (h2:nr≤200) (h7:nv≤7) :
 Calls Tryz.prog 67 #[h.val ar nr cr av nv cv] w (fun e w'=>∃ a,e = .returned (.agg #[.int .i64 3,.int .i64 0,.string ⟨#[]⟩,.slice a 7 7])∧V.At w' (fun p=>w.heap.size≤p∧p<w'.heap.size) (hdV h) [.int .i64 3,.int .i64 0,.string ⟨#[]⟩,.slice a 7 7]∧Below w.heap.size w w'):=by
 obtain⟨tm,vo,ba,bt,rs,sn,vs⟩:=h
 unfold Hd.val
 dsimp only
 have HN:=Lib.hid (show nr=rs.length from H.rlen)
 have HNV:=Lib.hid (show nv=vs.length from H.vlen)
 have HRO:=Lib.hid (show rcE.Sl w ar nr rs from H.recs)
 have HVO:=Lib.hid (show SlAt w av nv (i64s vs) from H.voters)
 clear H
 have HB0:=Lib.hid ((((Below.refl _ w).alloc (Nat.le_refl _) (.cells #[.int .i64 tm,.int .i64 vo,.int .i64 ba,.int .i64 bt,.slice ar nr cr,.string sn,.slice av nv cv] 42)).alloc (by simp) (.cells #[.int .i64 0,.int .i64 0,.string ⟨#[]⟩,.slice none 0 0] 70)).alloc (by simp; omega) (.cells #[.int .i64 3,.int .i64 0,.string ⟨#[]⟩,.slice none 0 0] 70))
 have HK0:=Lib.hid ((Blk.both w (.cells #[.int .i64 tm,.int .i64 vo,.int .i64 ba,.int .i64 bt,.slice ar nr cr,.string sn,.slice av nv cv] 42) (.cells #[.int .i64 0,.int .i64 0,.string ⟨#[]⟩,.slice none 0 0] 70) _ _ [.int .i64 tm,.int .i64 vo,.int .i64 ba,.int .i64 bt,.slice ar nr cr,.string sn,.slice av nv cv] [.int .i64 0,.int .i64 0,.string ⟨#[]⟩,.slice none 0 0] rfl rfl).1.alloc (.cells #[.int .i64 3,.int .i64 0,.string ⟨#[]⟩,.slice none 0 0] 70))
 have HR0:=Lib.hid ((Blk.both w (.cells #[.int .i64 tm,.int .i64 vo,.int .i64 ba,.int .i64 bt,.slice ar nr cr,.string sn,.slice av nv cv] 42) (.cells #[.int .i64 0,.int .i64 0,.string ⟨#[]⟩,.slice none 0 0] 70) _ _ [.int .i64 tm,.int .i64 vo,.int .i64 ba,.int .i64 bt,.slice ar nr cr,.string sn,.slice av nv cv] [.int .i64 0,.int .i64 0,.string ⟨#[]⟩,.slice none 0 0] rfl rfl).2.alloc (.cells #[.int .i64 3,.int .i64 0,.string ⟨#[]⟩,.slice none 0 0] 70))
 have HF0:Hid (Four (((w.alloc (.cells #[.int .i64 tm,.int .i64 vo,.int .i64 ba,.int .i64 bt,.slice ar nr cr,.string sn,.slice av nv cv] 42)).alloc (.cells #[.int .i64 0,.int .i64 0,.string ⟨#[]⟩,.slice none 0 0] 70)).alloc (.cells #[.int .i64 3,.int .i64 0,.string ⟨#[]⟩,.slice none 0 0] 70)) (w.heap.size+2) 70 (.int .i64 3) (.int .i64 0) (.string ⟨#[]⟩) (.slice none 0 0)):=Lib.hid (by
  have hz:=heap_alloc_new ((w.alloc (.cells #[.int .i64 tm,.int .i64 vo,.int .i64 ba,.int .i64 bt,.slice ar nr cr,.string sn,.slice av nv cv] 42)).alloc (.cells #[.int .i64 0,.int .i64 0,.string ⟨#[]⟩,.slice none 0 0] 70)) (.cells #[.int .i64 3,.int .i64 0,.string ⟨#[]⟩,.slice none 0 0] 70)
  rw [World.size_alloc,World.size_alloc] at hz
  exact hz)
 have HS0:Hid ((((w.alloc (.cells #[.int .i64 tm,.int .i64 vo,.int .i64 ba,.int .i64 bt,.slice ar nr cr,.string sn,.slice av nv cv] 42)).alloc (.cells #[.int .i64 0,.int .i64 0,.string ⟨#[]⟩,.slice none 0 0] 70)).alloc (.cells #[.int .i64 3,.int .i64 0,.string ⟨#[]⟩,.slice none 0 0] 70)).heap.size=w.heap.size+3):=Lib.hid (by simp)
 go_enter Tryz.func67,Tryz.ntmps67
 go_upto_region 2 with fail
 generalize (((w.alloc (.cells #[.int .i64 tm,.int .i64 vo,.int .i64 ba,.int .i64 bt,.slice ar nr cr,.string sn,.slice av nv cv] 42)).alloc (.cells #[.int .i64 0,.int .i64 0,.string ⟨#[]⟩,.slice none 0 0] 70)).alloc (.cells #[.int .i64 3,.int .i64 0,.string ⟨#[]⟩,.slice none 0 0] 70))=w0 at *
 have hs0:=HS0.out
 have HM0:Hid (MakingB w0.heap.size (w.heap.size+2) [] none 0 [] w0):=Lib.hid (MakingB.start _ _ _ (by omega) (Nat.le_refl _) HF0.out)
 have k6:=HK0.out.cell (j:=6) rfl
 go_wp2_with fail
 clear k6
 go_loopg [10] nv (fun gk v wr=>∃ (k:Nat) (acc:List V) (va:Option Addr) (vc:Nat) (cells:List Value),k≤nv∧gk=nv - k∧v = .int .i64 (k:Int)∧Hid (acc=(vs.take k).map numV)∧Hid (MakingB w0.heap.size (w.heap.size+2) acc va vc cells wr)∧Hid (KeptB w0.heap.size (w.heap.size+2) w0 wr))
 case atStart=>exact⟨0,[],none,0,[],Nat.zero_le _,rfl,rfl,Lib.hid rfl,HM0,Lib.hid (KeptB.refl _ _ _)⟩
 case round =>
  clear HM0
  obtain⟨k,acc,va,vc,cells,hk,rfl,rfl,HACC,hM,hKP⟩:=hrel
  have HL:Hid (acc.length=k):=Lib.hid (by rw [HACC.out,List.length_map,List.length_take]; have:=HNV.out; omega)
  have HBr:=Lib.hid (HB0.out.trans (hKP.out.below (B:=w.heap.size) (by omega) (by omega)))
  by_cases hkn:k<nv
  ·have hki:(k:Int)<(nv:Int):=by omega
   have hkl:k<vs.length:=by rw [← HNV.out]; exact hkn
   obtain⟨-,b,off,rfl,hc⟩:=(HVO.out.keep HBr.out).i64 (by omega)
   have c0:=hc k hkl
   have HLI:Hid (acc.length≤7):=Lib.hid (by have:=HL.out; omega)
   have HMT:Hid (acc++[numV vs[k]]=(vs.take (k+1)).map numV):=Lib.hid (by rw [HACC.out,List.take_add_one,List.getElem?_eq_getElem hkl,List.map_append]; rfl)
   clear hc
   generalize vs[k]=xv at *
   go_wp2_with fail
   clear c0
   refine wp_region_lastE (regOf Tryz.f67 5) [some 14,some 15,some 16,some 17,some 18,some 19,some 20] 7 (wvnT w0.heap.size ((w.heap.size+2)) xv va vc acc cells wr) (fun e w'=>(wr.grownBy w' (Value.slice va acc.length vc).ownBlock)∧(e 5=none→MakingB w0.heap.size ((w.heap.size+2)) acc va vc cells w')) wvnD (by kernel_rfl) (by kernel_rfl) (by kernel_rfl) (by kernel_rfl) (by kernel_rfl) (by kernel_rfl) (by kernel_rfl) ⟨grown_of_below ((Below.refl _ _).drew) _,fun _=>hM.out.under ((Below.refl _ _).drew)⟩
    (wvn_steps w0.heap.size ((w.heap.size+2)) xv va vc acc cells wr (hM.out.le) (fun k hk=>(hM.out.own.lt k hk).2) (by have:=HLI.out; omega) (by kernel_rfl) (by kernel_rfl) (by kernel_rfl) (by kernel_rfl)) ?_
   intro oL hoL eL vs w9 hn hallL hCw9 hT KL hKL
   replace hn:vs.length=7:=hn
   obtain⟨v0,vs1,rfl,hn1⟩:=len_cons hn
   obtain⟨v1,vs2,rfl,hn2⟩:=len_cons hn1
   obtain⟨v2,vs3,rfl,hn3⟩:=len_cons hn2
   obtain⟨v3,vs4,rfl,hn4⟩:=len_cons hn3
   obtain⟨v4,vs5,rfl,hn5⟩:=len_cons hn4
   obtain⟨v5,vs6,rfl,hn6⟩:=len_cons hn5
   obtain⟨v6,vs7,rfl,hn7⟩:=len_cons hn6
   obtain rfl:=List.eq_nil_of_length_eq_zero hn7
   clear hn hn1 hn2 hn3 hn4 hn5 hn6 hn7
   obtain rfl:v0 = .pointer (some ⟨(w.heap.size+2),3,none⟩):=hT 0 v0 rfl (by kernel_rfl)
   obtain rfl:v1 = .slice va acc.length vc:=hT 1 v1 rfl (by kernel_rfl)
   obtain rfl:v2 = .int .i64 xv:=hT 2 v2 rfl (by kernel_rfl)
   obtain rfl:v3 = .agg #[.int .i64 1,.int .i64 xv,.string ⟨#[]⟩,.slice none 0 0]:=hT 3 v3 rfl (by kernel_rfl)
   have t5:=Lib.hid (hT 5 v5 rfl (by kernel_rfl))
   obtain rfl:v6 = .pointer (some ⟨(w.heap.size+2),3,none⟩):=hT 6 v6 rfl (by kernel_rfl)
   clear hT
   have hoL1:=opIs hoL (p:=.store 68 (.tmp 20) (.tmp 19)) (by kernel_rfl)
   have hgL:=guardIs hoL (p:=none) (by kernel_rfl)
   have hdL:oL.dst=none:=by have:=(show ((regOf Tryz.f67 5)[7]?).map (·.dst)=some (none) by kernel_rfl); rw [hoL] at this; simpa using this
   rw [if_pos (wanted_free hgL)]
   rw [hdL] at hKL
   simp only [puts,Act.put,List.setIfInBounds_toArray,List.set_cons_succ,List.set_cons_zero] at hKL ⊢
   obtain⟨hC9,-⟩:=hCw9
   obtain⟨a3,c3,cells3,e11,hmade⟩:=t5.out
   subst e11
   have e3:=hmade.box.c3
   have k3:=hmade.box.free 3
   unfold Oper.wp
   rw [show (execOp _ oL).run Tryz.prog w9 = .ok .skip (w9.setCell ⟨(w.heap.size+2),3,none⟩ (.slice a3 (acc.length+[numV xv].length) c3)) by unfold execOp; simp only [hoL1]; simp [go_sem,e3,k3]]
   show KL (Act.put _ oL.dst undef) _
   rw [hdL]
   refine hKL undef _ ?_
   have HMK:=Lib.hid hmade.store
   have HKN:=Lib.hid ((hKP.out.grown hC9 (by have:=hM.out.le; omega) (fun k hk=>.inl (hM.out.own.lt k hk).1)).grown (grown_setCell w9 ((w.heap.size+2)) 3 (.slice a3 (acc.length+[numV xv].length) c3)) (by have:=hC9.size; have:=hM.out.le; omega) (fun k hk=>.inr (Option.some.inj hk).symm))
   clear e3 k3 hmade t5 hC9 hKL hoL hoL1 hgL hdL hallL
   generalize w9.setCell ⟨(w.heap.size+2),3,none⟩ (.slice a3 (acc.length+[numV xv].length) c3)=w10 at *
   go_wp2_with fail
   go_roundg (nv - (k+1))
   case rel=>exact⟨k+1,_,a3,c3,cells3,by omega,rfl,by go_num,HMT,HMK,HKN⟩
   case measure=>omega
  ·obtain rfl:k=nv:=by omega
   have HACV:Hid (acc=vs.map numV):=Lib.hid (by rw [HACC.out,HNV.out,List.take_length])
   have HKz:=Lib.hid (show Blk wr w.heap.size _ _ from (hKP.out.block _ (by omega) (by omega)).trans HK0.out)
   have HRz:=Lib.hid (show Blk wr (w.heap.size+1) _ _ from (hKP.out.block _ (by omega) (by omega)).trans HR0.out)
   have hrz:=HRO.out.keep HBr.out
   have hle:=hM.out.le
   go_wp2_with fail
   refine wp_region_last (regOf Tryz.f67 7) [some 22,some 23,some 24,some 25,some 26,some 27,some 28,some 29,some 30,some 31,some 32,some 33,some 34,some 35,some 36,some 37,some 38,some 39,some 40,some 41,some 42,some 43,some 44,some 45] 24 (wvlT w.heap.size (w.heap.size+2) tm vo ba bt ar nr cr rs sn av k cv va acc.length vc wr) (fun w'=>Below wr.heap.size wr w') wvlD (by kernel_rfl) (by kernel_rfl) (by kernel_rfl) (by kernel_rfl) (by kernel_rfl) (by kernel_rfl) (by kernel_rfl) ((Below.refl _ _).drew)
    (wvl_steps w.heap.size (w.heap.size+2) tm vo ba bt ar nr cr rs sn av k cv va acc.length vc wr (by omega) HKz.out (by omega) hM.out.box hrz h2 (by kernel_rfl) (by kernel_rfl) (by kernel_rfl)) ?_
   intro oL hoL vs w9 hn hCw9 hT KL hKL
   replace hn:vs.length=24:=hn
   obtain⟨v0,vs1,rfl,hn1⟩:=len_cons hn
   obtain⟨v1,vs2,rfl,hn2⟩:=len_cons hn1
   obtain⟨v2,vs3,rfl,hn3⟩:=len_cons hn2
   obtain⟨v3,vs4,rfl,hn4⟩:=len_cons hn3
   obtain⟨v4,vs5,rfl,hn5⟩:=len_cons hn4
   obtain⟨v5,vs6,rfl,hn6⟩:=len_cons hn5
   obtain⟨v6,vs7,rfl,hn7⟩:=len_cons hn6
   obtain⟨v7,vs8,rfl,hn8⟩:=len_cons hn7
   obtain⟨v8,vs9,rfl,hn9⟩:=len_cons hn8
   obtain⟨v9,vs10,rfl,hn10⟩:=len_cons hn9
   obtain⟨v10,vs11,rfl,hn11⟩:=len_cons hn10
   obtain⟨v11,vs12,rfl,hn12⟩:=len_cons hn11
   obtain⟨v12,vs13,rfl,hn13⟩:=len_cons hn12
   obtain⟨v13,vs14,rfl,hn14⟩:=len_cons hn13
   obtain⟨v14,vs15,rfl,hn15⟩:=len_cons hn14
   obtain⟨v15,vs16,rfl,hn16⟩:=len_cons hn15
   obtain⟨v16,vs17,rfl,hn17⟩:=len_cons hn16
   obtain⟨v17,vs18,rfl,hn18⟩:=len_cons hn17
   obtain⟨v18,vs19,rfl,hn19⟩:=len_cons hn18
   obtain⟨v19,vs20,rfl,hn20⟩:=len_cons hn19
   obtain⟨v20,vs21,rfl,hn21⟩:=len_cons hn20
   obtain⟨v21,vs22,rfl,hn22⟩:=len_cons hn21
   obtain⟨v22,vs23,rfl,hn23⟩:=len_cons hn22
   obtain⟨v23,vs24,rfl,hn24⟩:=len_cons hn23
   obtain rfl:=List.eq_nil_of_length_eq_zero hn24
   clear hn hn1 hn2 hn3 hn4 hn5 hn6 hn7 hn8 hn9 hn10 hn11 hn12 hn13 hn14 hn15 hn16 hn17 hn18 hn19 hn20 hn21 hn22 hn23 hn24
   obtain rfl:v0 = .pointer (some ⟨w.heap.size,0,none⟩):=hT 0 v0 rfl (by kernel_rfl)
   obtain rfl:v1 = .int .i64 tm:=hT 1 v1 rfl (by kernel_rfl)
   obtain rfl:v2 = .agg #[.int .i64 1,.int .i64 tm,.string ⟨#[]⟩,.slice none 0 0]:=hT 2 v2 rfl (by kernel_rfl)
   obtain rfl:v3 = .pointer (some ⟨w.heap.size,1,none⟩):=hT 3 v3 rfl (by kernel_rfl)
   obtain rfl:v4 = .int .i64 vo:=hT 4 v4 rfl (by kernel_rfl)
   obtain rfl:v5 = .agg #[.int .i64 1,.int .i64 vo,.string ⟨#[]⟩,.slice none 0 0]:=hT 5 v5 rfl (by kernel_rfl)
   obtain rfl:v6 = .pointer (some ⟨w.heap.size,2,none⟩):=hT 6 v6 rfl (by kernel_rfl)
   obtain rfl:v7 = .pointer (some ⟨w.heap.size,2,none⟩):=hT 7 v7 rfl (by kernel_rfl)
   obtain rfl:v8 = .int .i64 ba:=hT 8 v8 rfl (by kernel_rfl)
   obtain rfl:v9 = .agg #[.int .i64 1,.int .i64 ba,.string ⟨#[]⟩,.slice none 0 0]:=hT 9 v9 rfl (by kernel_rfl)
   obtain rfl:v10 = .pointer (some ⟨w.heap.size,2,none⟩):=hT 10 v10 rfl (by kernel_rfl)
   obtain rfl:v11 = .pointer (some ⟨w.heap.size,3,none⟩):=hT 11 v11 rfl (by kernel_rfl)
   obtain rfl:v12 = .int .i64 bt:=hT 12 v12 rfl (by kernel_rfl)
   obtain rfl:v13 = .agg #[.int .i64 1,.int .i64 bt,.string ⟨#[]⟩,.slice none 0 0]:=hT 13 v13 rfl (by kernel_rfl)
   obtain rfl:v14 = .pointer (some ⟨w.heap.size,5,none⟩):=hT 14 v14 rfl (by kernel_rfl)
   obtain rfl:v15 = .string sn:=hT 15 v15 rfl (by kernel_rfl)
   obtain rfl:v16 = .agg #[.int .i64 2,.int .i64 0,.string sn,.slice none 0 0]:=hT 16 v16 rfl (by kernel_rfl)
   obtain rfl:v17 = .agg #[.int .i64 3,.int .i64 0,.string ⟨#[]⟩,.slice va acc.length vc]:=hT 17 v17 rfl (by kernel_rfl)
   obtain rfl:v18 = .pointer (some ⟨w.heap.size,2,none⟩):=hT 18 v18 rfl (by kernel_rfl)
   obtain rfl:v19 = .pointer (some ⟨w.heap.size,4,none⟩):=hT 19 v19 rfl (by kernel_rfl)
   obtain rfl:v20 = .slice ar nr cr:=hT 20 v20 rfl (by kernel_rfl)
   have t21:=Lib.hid (hT 21 v21 rfl (by kernel_rfl))
   have t22:=Lib.hid (hT 22 v22 rfl (by kernel_rfl))
   have t23:=Lib.hid (hT 23 v23 rfl (by kernel_rfl))
   clear hT
   have hoL1:=opIs hoL (p:=.store 70 (.tmp 2) (.tmp 45)) (by kernel_rfl)
   have hgL:=guardIs hoL (p:=none) (by kernel_rfl)
   have hdL:oL.dst=none:=by have:=(show ((regOf Tryz.f67 7)[24]?).map (·.dst)=some (none) by kernel_rfl); rw [hoL] at this; simpa using this
   rw [if_pos (wanted_free hgL)]
   rw [hdL] at hKL
   simp only [puts,Act.put,List.setIfInBounds_toArray,List.set_cons_succ,List.set_cons_zero] at hKL ⊢
   obtain⟨ra,rc,c,rfl,hra,hcl,hcb⟩:=t23.out
   have HR9:=Lib.hid (HRz.out.keep hCw9)
   have HB9:=Lib.hid (HBr.out.trans (Below.lower hCw9 HBr.out.size))
   have q0:=HR9.out.cell (j:=0) rfl
   have f0:=HR9.out.free 0
   have q1:=HR9.out.cell (j:=1) rfl
   have f1:=HR9.out.free 1
   have q2:=HR9.out.cell (j:=2) rfl
   have f2:=HR9.out.free 2
   have q3:=HR9.out.cell (j:=3) rfl
   have f3:=HR9.out.free 3
   unfold Oper.wp
   rw [show (execOp _ oL).run Tryz.prog w9 = .ok .skip ((((w9.setCell ⟨w.heap.size+1,0,none⟩ (.int .i64 3)).setCell ⟨w.heap.size+1,1,none⟩ (.int .i64 0)).setCell ⟨w.heap.size+1,2,none⟩ (.string ⟨#[]⟩)).setCell ⟨w.heap.size+1,3,none⟩ (.slice (some ⟨c,0,none⟩) 7 7)) by unfold execOp; simp only [hoL1]; simp [go_sem,q0,q1,q2,q3,f0,f1,f2,f3]]
   show KL (Act.put _ oL.dst undef) _
   rw [hdL]
   refine hKL undef _ ?_
   have hz9:=(((HR9.out.set 0 (.int .i64 3)).set 1 (.int .i64 0)).set 2 (.string ⟨#[]⟩)).set 3 (.slice (some ⟨c,0,none⟩) 7 7)
   have hg9:=grown_trans (grown_trans (grown_trans (grown_setCell w9 (w.heap.size+1) 0 (.int .i64 3)) (grown_setCell _ (w.heap.size+1) 1 (.int .i64 0))) (grown_setCell _ (w.heap.size+1) 2 (.string ⟨#[]⟩))) (grown_setCell _ (w.heap.size+1) 3 (.slice (some ⟨c,0,none⟩) 7 7))
   have HBZ:=Lib.hid (HB9.out.grown hg9 HB9.out.size (fun q e=>by have:=Option.some.inj e; omega))
   have hbl:∀ p,w0.heap.size≤p→p<w9.heap.size→_=w9.heap[p]?:=fun p h1 h2=>hg9.block p h2 (fun e=>by have:=Option.some.inj e; omega)
   generalize ((((w9.setCell ⟨w.heap.size+1,0,none⟩ (.int .i64 3)).setCell ⟨w.heap.size+1,1,none⟩ (.int .i64 0)).setCell ⟨w.heap.size+1,2,none⟩ (.string ⟨#[]⟩)).setCell ⟨w.heap.size+1,3,none⟩ (.slice (some ⟨c,0,none⟩) 7 7))=wz at *
   have hsz:w9.heap.size≤wz.heap.size:=hg9.size
   have hs9:=hCw9.size
   have hat:V.At wz (fun p=>w.heap.size≤p∧p<wz.heap.size) (hdV ⟨tm,vo,ba,bt,rs,sn,vs⟩) [.int .i64 3,.int .i64 0,.string ⟨#[]⟩,.slice (some ⟨c,0,none⟩) 7 7]:=by
    have h3:=V.At.move (w':=wz) (T:=fun p=>w.heap.size≤p∧p<wz.heap.size) (fun p hp=>⟨by have:=hp.1; omega,by have:=hp.2; omega⟩) (fun p hp=>hbl p (by have:=hp.1; omega) hp.2) _ _ hra
    have h1:=V.At.move (w':=wz) (T:=fun p=>w.heap.size≤p∧p<wz.heap.size) (fun p hp=>⟨by have:=hp.1; omega,by have:=hp.2; omega⟩) (fun p hp=>(hbl p (by have:=hp.1; omega) (by have:=hp.2; omega)).trans (hCw9.block p hp.2)) _ _ hM.out.at
    rw [HACV.out] at h1
    have hrow:=((((((RowOf.nil.snoc (numV_at wz (fun p=>w.heap.size≤p∧p<wz.heap.size) tm)).snoc (numV_at wz _ vo)).snoc (numV_at wz _ ba)).snoc (numV_at wz _ bt)).snoc (textV_at wz _ sn)).snoc h1).snoc h3
    exact listV_at ⟨by omega,by have:=lt_of_block hcb; omega⟩ hrow ((hbl c (by omega) (lt_of_block hcb)).trans (by rw [hcb,HACV.out]; rfl)) rfl
   have HAT:=Lib.hid hat
   go_wp2_with fail
   refine bodyPost_ret (v:=.agg #[.int .i64 3,.int .i64 0,.string ⟨#[]⟩,.slice (some ⟨c,0,none⟩) 7 7]) ?_ rfl ?_
   ·exact results_cell_row (p:=2) rfl _ _ (w.heap.size+1) 70 _ (0,0) _ rfl hz9 Tryz.underlying70 rfl (by kernel_rfl)
   ·exact⟨_,rfl,HAT.out,HBZ.out⟩
set_option maxRecDepth 100000 in
set_option maxHeartbeats 1000000 in
theorem wput_any (h:Hd) (ar:Option Addr) (nr cr:Nat) (av:Option Addr) (nv cv:Nat) (w:World) (H:HdAt w h ar nr cr av nv cv) (htab:Lib.TabIs Tryz.prog w "internal/strconv.uint64pow10" .u64 Lib.pow10Tab) (g:ByteArray × Int) (hg:Hid (g=putH h)) :
 Calls Tryz.prog 25 #[h.val ar nr cr av nv cv] w (fun e w'=>e = .returned (.tuple #[.string g.1,.int .i64 g.2])∧Below w.heap.size w w'):=by
 have HT:=Lib.hid (Lib.tabBelow_of_tabIs htab)
 have HSH:=Lib.hid (fun (W:World) (hb:Below w.heap.size w W)=>wshaped_any h ar nr cr av nv cv W (H.keep hb) (shapedH h) (Lib.hid rfl))
 have HVL:=Lib.hid (fun (hs:shapedH h=true) (W:World) (hb:Below w.heap.size w W)=>wvalue_any h ar nr cr av nv cv W (H.keep hb) (by have:=(shaped_in hs).1.2.2.1.2.2.2.2.2.1; rw [← H.rlen] at this; exact this) (by have:=(shaped_in hs).1.2.2.2.1; rw [← H.vlen] at this; exact this))
 have HPT:=Lib.hid (fun (hs:shapedH h=true) (W:World) (S:Nat→Prop) (cs:List Value) (hS:∀ b,S b→b<W.heap.size) (hat:V.At W S (hdV h) cs) (hb:Below w.heap.size w W)=>put_any S (hdV h) cs W hS hat (hdV_small hs).1 (hdV_inR hs) (hdV_small hs).2 (HT.out _ hb) (putGot (hdV h)) (Lib.hid rfl))
 have HG1:Hid (shapedH h=false→g=(⟨#[]⟩,1)):=Lib.hid (fun hs=>by rw [hg.out]; unfold putH; rw [hs]; rfl)
 have HG2:Hid (shapedH h=true→g=if (putGot (hdV h)).2≠0 then (⟨#[]⟩,1) else putGot (hdV h)):=Lib.hid (fun hs=>by rw [hg.out]; unfold putH; rw [if_pos hs])
 clear H htab hg
 obtain⟨P,hP⟩:∃ P,P=putGot (hdV h):=⟨_,rfl⟩
 rw [← hP] at HPT HG2
 clear hP
 obtain⟨sh,hsh⟩:∃ sh,sh=shapedH h:=⟨_,rfl⟩
 rw [← hsh] at HSH HVL HPT HG1 HG2
 obtain⟨tm,vo,ba,bt,rs,sn,vs⟩:=h
 unfold Hd.val at *
 dsimp only at *
 clear hsh
 have HB0:=Lib.hid ((Below.refl _ w).alloc (Nat.le_refl _) (.cells #[.int .i64 tm,.int .i64 vo,.int .i64 ba,.int .i64 bt,.slice ar nr cr,.string sn,.slice av nv cv] 42))
 have HK0:Hid (Blk (w.alloc (.cells #[.int .i64 tm,.int .i64 vo,.int .i64 ba,.int .i64 bt,.slice ar nr cr,.string sn,.slice av nv cv] 42)) w.heap.size 42 [.int .i64 tm,.int .i64 vo,.int .i64 ba,.int .i64 bt,.slice ar nr cr,.string sn,.slice av nv cv]):=Lib.hid (heap_alloc_new w _)
 have x0:=HK0.out.cell (j:=0) rfl
 have x1:=HK0.out.cell (j:=1) rfl
 have x2:=HK0.out.cell (j:=2) rfl
 have x3:=HK0.out.cell (j:=3) rfl
 have x4:=HK0.out.cell (j:=4) rfl
 have x5:=HK0.out.cell (j:=5) rfl
 have x6:=HK0.out.cell (j:=6) rfl
 go_enter Tryz.func25,Tryz.ntmps25
 go_wp2_with fail
 refine (HSH.out _ HB0.out).mono ?_
 rintro e w1 ⟨rfl,hb1⟩
 have HB1:=Lib.hid (below_then HB0.out hb1 HB0.out.size)
 have HK1:=Lib.hid (HK0.out.keep hb1)
 clear x0 x1 x2 x3 x4 x5 x6 HB0 HK0 hb1 HSH
 cases sh with
 | false =>
   obtain rfl:=HG1.out rfl
   go_wp2_with fail
   go_ret2
   exact⟨rfl,HB1.out⟩
 | true =>
   have HG:=Lib.hid (HG2.out rfl)
   have x0:=HK1.out.cell (j:=0) rfl
   have x1:=HK1.out.cell (j:=1) rfl
   have x2:=HK1.out.cell (j:=2) rfl
   have x3:=HK1.out.cell (j:=3) rfl
   have x4:=HK1.out.cell (j:=4) rfl
   have x5:=HK1.out.cell (j:=5) rfl
   have x6:=HK1.out.cell (j:=6) rfl
   clear HG1 HG2
   go_wp2_with fail
   refine (HVL.out (by trivial) _ HB1.out).mono ?_
   rintro e w2 ⟨a,rfl,hat,hb2⟩
   have HB2:=Lib.hid (below_then HB1.out hb2 HB1.out.size)
   have HPC:=Lib.hid (HPT.out (by trivial) w2 _ _ (fun b (hb:_∧_)=>hb.2) hat HB2.out)
   clear x0 x1 x2 x3 x4 x5 x6 hb2 hat HVL HPT HK1 HB1
   obtain⟨P1,P2⟩:=P
   dsimp only at *
   go_wp2_with fail
   refine HPC.out.mono ?_
   rintro e w3 ⟨rfl,hb3⟩
   have HB3:=Lib.hid (below_then HB2.out hb3 HB2.out.size)
   clear hb3 HPC HB2
   dsimp only
   by_cases hp:P2=0
   ·subst hp
    have hgg:=HG.out
    rw [if_neg (by simp)] at hgg
    subst hgg
    go_wp2_with fail
    go_ret2
    exact⟨rfl,HB3.out⟩
   ·have p1:(P2 != 0)=true:=by simpa using hp
    have hgg:=HG.out
    rw [if_pos hp] at hgg
    subst hgg
    clear HG hp
    go_wp2_with fail
    go_ret2
    exact⟨rfl,HB3.out⟩
set_option maxRecDepth 100000 in
set_option maxHeartbeats 1000000 in
theorem wright_any (h:Hd) (ar:Option Addr) (nr cr:Nat) (av:Option Addr) (nv cv:Nat) (w:World) (H:HdAt w h ar nr cr av nv cv) (htab:Lib.TabIs Tryz.prog w "internal/strconv.uint64pow10" .u64 Lib.pow10Tab) (v:Bool) (hv:Hid (v=rightH h)) :
 Calls Tryz.prog 23 #[h.val ar nr cr av nv cv] w (fun e w'=>e = .returned (.bool v)∧Below w.heap.size w w'):=by
 have HT:=Lib.hid (Lib.tabBelow_of_tabIs htab)
 obtain⟨g,hg⟩:∃ g,g=putH h:=⟨_,rfl⟩
 have HPT:=Lib.hid (fun (W:World) (hb:Below w.heap.size w W)=>wput_any h ar nr cr av nv cv W (H.keep hb) (HT.out _ hb) g (Lib.hid hg))
 have HV:Hid (v=(g.2==0)):=Lib.hid (by rw [hv.out,hg]; unfold rightH; by_cases h0:(putH h).2=0 <;> simp [h0])
 clear H htab hv hg
 obtain⟨tm,vo,ba,bt,rs,sn,vs⟩:=h
 unfold Hd.val at *
 dsimp only at *
 obtain⟨g1,g2⟩:=g
 dsimp only at *
 have HB0:=Lib.hid ((Below.refl _ w).alloc (Nat.le_refl _) (.cells #[.int .i64 tm,.int .i64 vo,.int .i64 ba,.int .i64 bt,.slice ar nr cr,.string sn,.slice av nv cv] 42))
 have HK0:Hid (Blk (w.alloc (.cells #[.int .i64 tm,.int .i64 vo,.int .i64 ba,.int .i64 bt,.slice ar nr cr,.string sn,.slice av nv cv] 42)) w.heap.size 42 [.int .i64 tm,.int .i64 vo,.int .i64 ba,.int .i64 bt,.slice ar nr cr,.string sn,.slice av nv cv]):=Lib.hid (heap_alloc_new w _)
 have x0:=HK0.out.cell (j:=0) rfl
 have x1:=HK0.out.cell (j:=1) rfl
 have x2:=HK0.out.cell (j:=2) rfl
 have x3:=HK0.out.cell (j:=3) rfl
 have x4:=HK0.out.cell (j:=4) rfl
 have x5:=HK0.out.cell (j:=5) rfl
 have x6:=HK0.out.cell (j:=6) rfl
 go_enter Tryz.func23,Tryz.ntmps23
 go_wp2_with fail
 refine (HPT.out _ HB0.out).mono ?_
 rintro e w1 ⟨rfl,hb1⟩
 have HB1:=Lib.hid (below_then HB0.out hb1 HB0.out.size)
 clear x0 x1 x2 x3 x4 x5 x6 hb1 HPT
 dsimp only
 obtain rfl:=HV.out
 clear HV
 go_wp2_with fail
 go_ret
 exact⟨rfl,HB1.out⟩
end Go.Proofs.YtlpgbmaoenncjaaGreatDoor

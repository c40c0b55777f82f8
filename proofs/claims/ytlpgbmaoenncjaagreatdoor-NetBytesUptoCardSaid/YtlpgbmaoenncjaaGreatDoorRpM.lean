/-
  The walk of the reference's Put of messages: the bytes of any message, or why it is refused. (Written by wip/mkrpm.py.)
-/
import Derived.Test.YtlpgbmaoenncjaaGreatDoorRpL
import Derived.Test.YtlpgbmaoenncjaaGreatDoorNmG
import Derived.Test.YtlpgbmaoenncjaaGreatDoorPvs
namespace Go.Proofs.YtlpgbmaoenncjaaGreatDoor
open Go.RowKit
set_option linter.unusedVariables false
theorem zC {p:Prop} (h:p):Hid p:=Lib.hid h
set_option maxRecDepth 100000 in
set_option maxHeartbeats 4000000 in
theorem rput21_any (m:Ms) (ar:Option Addr) (nr cr:Nat) (av:Option Addr) (nv cv:Nat) (w:World) (h:MsAt w m ar nr cr av nv cv) (htab:Lib.TabIs Tryz.prog w "internal/strconv.uint64pow10" .u64 Lib.pow10Tab) (g:ByteArray × Int) (hg:Hid (g=putM m)) :
 Calls Tryz.prog 11 #[m.val ar nr cr av nv cv] w (fun e w'=>e = .returned (.tuple #[.string g.1,.int .i64 g.2])∧Below w.heap.size w w'):=by
 have HT:=zC (Lib.tabBelow_of_tabIs htab)
 have HPT:=zC (fun (hm:mayM m=true) (W:World) (cs:List Value) (hb:Below w.heap.size w W) (hat:V.At W (fun p=>p<W.heap.size) (msV m) cs)=>rput_any (fun p=>p<W.heap.size) (msV m) cs W (fun b hb=>hb) hat (msV_small hm).1 (msV_inR hm) (msV_small hm).2 (HT.out _ hb) (putGot (msV m)) (zC rfl))
 have HG1:Hid (mayM m=false→g=(⟨#[]⟩,1)):=zC (fun hm=>by rw [hg.out]; unfold putM; rw [hm]; rfl)
 have HG2:Hid (mayM m=true→g=putGot (msV m)):=zC (fun hm=>by rw [hg.out]; unfold putM; rw [if_pos hm])
 have hfew:=zC (fun (hm:mayM m=true)=>may_few hm)
 have HMAY0:=zC (fun (v:Bool) (hv:v=mayM m) (W:World) (hb:Below w.heap.size w W)=>rMay_any m ar nr cr av nv cv W (h.keep hb) v (zC hv))
 have HN:=zC h.rlen
 have HNV:=zC h.vlen
 have hnr:=h.nr
 have hnv:=h.nv
 obtain⟨P,hP⟩:∃ P,P=putGot (msV m):=⟨_,rfl⟩
 rw [← hP] at HPT HG2
 clear hP htab hg
 obtain⟨v,hv⟩:∃ v,v=mayM m:=⟨_,rfl⟩
 have HMAY:=zC (HMAY0.out v hv)
 rw [← hv] at HPT HG1 HG2 hfew
 clear HMAY0 hv
 obtain⟨P1,P2⟩:=P
 obtain⟨kd,fr,ds,tm,ok,ix,lt,rs,cm,sn,vs⟩:=m
 have HRO:=zC (show rcE.Sl w ar nr rs from h.recs)
 have HVO:=zC (show SlAt w av nv (i64s vs) from h.voters)
 clear h
 unfold Ms.val at HMAY ⊢
 dsimp only at *
 cases ok with
 | false =>
   have HB0:=zC ((Below.refl _ w).alloc (Nat.le_refl _) (.cells #[.int .i64 kd,.int .i64 fr,.int .i64 ds,.int .i64 tm,.bool false,.int .i64 ix,.int .i64 lt,.slice ar nr cr,.int .i64 cm,.string sn,.slice av nv cv] 25))
   have HK0:Hid (Blk (w.alloc (.cells #[.int .i64 kd,.int .i64 fr,.int .i64 ds,.int .i64 tm,.bool false,.int .i64 ix,.int .i64 lt,.slice ar nr cr,.int .i64 cm,.string sn,.slice av nv cv] 25)) w.heap.size 25 [.int .i64 kd,.int .i64 fr,.int .i64 ds,.int .i64 tm,.bool false,.int .i64 ix,.int .i64 lt,.slice ar nr cr,.int .i64 cm,.string sn,.slice av nv cv]):=zC (heap_alloc_new w _)
   have x0:=HK0.out.cell (j:=0) rfl
   have x1:=HK0.out.cell (j:=1) rfl
   have x2:=HK0.out.cell (j:=2) rfl
   have x3:=HK0.out.cell (j:=3) rfl
   have x4:=HK0.out.cell (j:=4) rfl
   have x5:=HK0.out.cell (j:=5) rfl
   have x6:=HK0.out.cell (j:=6) rfl
   have x7:=HK0.out.cell (j:=7) rfl
   have x8:=HK0.out.cell (j:=8) rfl
   have x9:=HK0.out.cell (j:=9) rfl
   have x10:=HK0.out.cell (j:=10) rfl
   go_enter Tryz.func11,Tryz.ntmps11
   go_wp2_with fail
   refine (HMAY.out _ HB0.out).mono ?_
   rintro e w1 ⟨rfl,hb1⟩
   dsimp only
   have HB1:=zC (below_then HB0.out hb1 HB0.out.size)
   have HK1:=zC (HK0.out.keep hb1)
   clear x0 x1 x2 x3 x4 x5 x6 x7 x8 x9 x10 HB0 HK0 hb1 HMAY
   cases v with
   | false =>
     obtain rfl:=HG1.out (by rfl)
     go_wp2_with fail
     go_ret2
     exact⟨rfl,HB1.out⟩
   | true =>
     have x4:=HK1.out.cell (j:=4) rfl
     have HGG:=zC (HG2.out (by trivial))
     have h7:=(hfew.out (by trivial)).1
     have h20:=(hfew.out (by trivial)).2.1
     clear HG1 HG2 hfew
     go_upto_region 7 with fail
     clear x4
     have HB2:=zC (HB1.out.alloc HB1.out.size (.cells #[.int .i64 3,.int .i64 0,.string ⟨#[]⟩,.slice none 0 0] 70))
     have HK2:=zC (HK1.out.alloc (.cells #[.int .i64 3,.int .i64 0,.string ⟨#[]⟩,.slice none 0 0] 70))
     have HF2:Hid (Four (w1.alloc (.cells #[.int .i64 3,.int .i64 0,.string ⟨#[]⟩,.slice none 0 0] 70)) w1.heap.size 70 (.int .i64 3) (.int .i64 0) (.string ⟨#[]⟩) (.slice none 0 0)):=zC (heap_alloc_new w1 _)
     have HS2:Hid ((w1.alloc (.cells #[.int .i64 3,.int .i64 0,.string ⟨#[]⟩,.slice none 0 0] 70)).heap.size=w1.heap.size+1):=zC (by simp)
     have hwK:w.heap.size<w1.heap.size:=lt_of_block HK1.out
     generalize (w1.alloc (.cells #[.int .i64 3,.int .i64 0,.string ⟨#[]⟩,.slice none 0 0] 70))=w2 at *
     have hs2:=HS2.out
     have HM0:Hid (MakingB w2.heap.size w1.heap.size [] none 0 [] w2):=zC (MakingB.start _ _ _ (by omega) (Nat.le_refl _) HF2.out)
     have x10:=HK2.out.cell (j:=10) rfl
     go_wp2_with fail
     clear x10
     go_loopg [20] nv (fun gk v wr=>∃ (k:Nat) (acc:List V) (va:Option Addr) (vc:Nat) (cells:List Value),k≤nv∧gk=nv - k∧v = .int .i64 (k:Int)∧Hid (acc=(vs.take k).map numV)∧Hid (MakingB w2.heap.size w1.heap.size acc va vc cells wr)∧Hid (KeptB w2.heap.size w1.heap.size w2 wr))
     case atStart=>exact⟨0,[],none,0,[],Nat.zero_le _,rfl,rfl,zC rfl,HM0,zC (KeptB.refl _ _ _)⟩
     case round =>
      clear HM0
      obtain⟨k,acc,va,vc,cells,hk,rfl,rfl,HACC,hM,hKP⟩:=hrel
      have HL:Hid (acc.length=k):=zC (by rw [HACC.out,List.length_map,List.length_take]; have:=HNV.out; omega)
      have HBr:=zC (HB2.out.trans (hKP.out.below (B:=w.heap.size) (by omega) (by omega)))
      by_cases hkn:k<nv
      ·have hki:(k:Int)<(nv:Int):=by omega
       have hkl:k<vs.length:=by rw [← HNV.out]; exact hkn
       obtain⟨-,b,off,rfl,hc⟩:=(HVO.out.keep HBr.out).i64 (by omega)
       have c0:=hc k hkl
       have HLI:Hid (acc.length≤7):=zC (by have:=HL.out; have:=HNV.out; omega)
       have HMT:Hid (acc++[numV vs[k]]=(vs.take (k+1)).map numV):=zC (by rw [HACC.out,List.take_add_one,List.getElem?_eq_getElem hkl,List.map_append]; rfl)
       clear hc
       generalize vs[k]=xv at *
       go_wp2_with fail
       clear c0
       refine wp_region_lastE (regOf Tryz.f11 10) [some 24,some 25,some 26,some 27,some 28,some 29,some 30] 7 (rpnT w2.heap.size w1.heap.size xv va vc acc cells wr) (fun e w'=>(wr.grownBy w' (Value.slice va acc.length vc).ownBlock)∧(e 5=none→MakingB w2.heap.size w1.heap.size acc va vc cells w')) rpnD (by kernel_rfl) (by kernel_rfl) (by kernel_rfl) (by kernel_rfl) (by kernel_rfl) (by kernel_rfl) (by kernel_rfl) ⟨grown_of_below ((Below.refl _ _).drew) _,fun _=>hM.out.under ((Below.refl _ _).drew)⟩
        (rpn_steps w2.heap.size w1.heap.size xv va vc acc cells wr (hM.out.le) (fun k hk=>(hM.out.own.lt k hk).2) (by have:=HLI.out; omega) (by kernel_rfl) (by kernel_rfl) (by kernel_rfl) (by kernel_rfl)) ?_
       intro oL hoL eL vs w9 hn hallL hCw9 hT KL hKL
       replace hn:vs.length=7:=hn
       obtain⟨v0,vs1,rfl,hn1⟩:=len_cons hn
       obtain⟨v1,vs2,rfl,hn2⟩:=len_cons hn1
       obtain⟨v2,vs3,rfl,hn3⟩:=len_cons hn2
       obtain⟨v3,vs4,rfl,hn4⟩:=len_cons hn3
       obtain⟨v4,vs5,rfl,hn5⟩:=len_cons hn4
       obtain⟨v5,vs6,rfl,hn6⟩:=len_cons hn5
       obtain⟨v6,vs7,rfl,hn7⟩:=len_cons hn6
       obtain rfl:=List.eq_nil_of_length_eq_zero hn7
       clear hn hn1 hn2 hn3 hn4 hn5 hn6 hn7
       obtain rfl:v0 = .pointer (some ⟨w1.heap.size,3,none⟩):=hT 0 v0 rfl (by kernel_rfl)
       obtain rfl:v1 = .slice va acc.length vc:=hT 1 v1 rfl (by kernel_rfl)
       obtain rfl:v2 = .int .i64 xv:=hT 2 v2 rfl (by kernel_rfl)
       obtain rfl:v3 = .agg #[.int .i64 1,.int .i64 xv,.string ⟨#[]⟩,.slice none 0 0]:=hT 3 v3 rfl (by kernel_rfl)
       have t5:=zC (hT 5 v5 rfl (by kernel_rfl))
       obtain rfl:v6 = .pointer (some ⟨w1.heap.size,3,none⟩):=hT 6 v6 rfl (by kernel_rfl)
       clear hT
       have hoL1:=opIs hoL (p:=.store 68 (.tmp 30) (.tmp 29)) (by kernel_rfl)
       have hgL:=guardIs hoL (p:=none) (by kernel_rfl)
       have hdL:oL.dst=none:=by have:=(show ((regOf Tryz.f11 10)[7]?).map (·.dst)=some (none) by kernel_rfl); rw [hoL] at this; simpa using this
       rw [if_pos (wanted_free hgL)]
       rw [hdL] at hKL
       simp only [puts,Act.put,List.setIfInBounds_toArray,List.set_cons_succ,List.set_cons_zero] at hKL ⊢
       obtain⟨hC9,-⟩:=hCw9
       obtain⟨a3,c3,cells3,e11,hmade⟩:=t5.out
       subst e11
       have e3:=hmade.box.c3
       have k3:=hmade.box.free 3
       unfold Oper.wp
       rw [show (execOp _ oL).run Tryz.prog w9 = .ok .skip (w9.setCell ⟨w1.heap.size,3,none⟩ (.slice a3 (acc.length+[numV xv].length) c3)) by unfold execOp; simp only [hoL1]; simp [go_sem,e3,k3]]
       show KL (Act.put _ oL.dst undef) _
       rw [hdL]
       refine hKL undef _ ?_
       have HMK:=zC hmade.store
       have HKN:=zC ((hKP.out.grown hC9 (by have:=hM.out.le; omega) (fun k hk=>.inl (hM.out.own.lt k hk).1)).grown (grown_setCell w9 w1.heap.size 3 (.slice a3 (acc.length+[numV xv].length) c3)) (by have:=hC9.size; have:=hM.out.le; omega) (fun k hk=>.inr (Option.some.inj hk).symm))
       clear e3 k3 hmade t5 hC9 hKL hoL hoL1 hgL hdL hallL
       generalize w9.setCell ⟨w1.heap.size,3,none⟩ (.slice a3 (acc.length+[numV xv].length) c3)=w10 at *
       go_wp2_with fail
       go_roundg (nv - (k+1))
       case rel=>exact⟨k+1,_,a3,c3,cells3,by omega,rfl,by go_num,HMT,HMK,HKN⟩
       case measure=>omega
      ·obtain rfl:k=nv:=by omega
       have HACV:Hid (acc=vs.map numV):=zC (by rw [HACC.out,HNV.out,List.take_length])
       have HKa:=zC (show Blk wr w.heap.size _ _ from (hKP.out.block _ (by omega) (by omega)).trans HK2.out)
       have hvat:=V.At.move (w':=wr) (T:=fun p=>p<wr.heap.size) (fun p hp=>hp.2) (fun _ _=>rfl) _ _ hM.out.at
       rw [HACV.out] at hvat
       have hlen:acc.length=(vs.map numV).length:=by rw [HACV.out]
       rw [← hlen] at hvat
       have HVAT:=zC hvat
       have HBOX:=zC hM.out.box
       clear hvat hlen hKP hM
       go_upto_region 13 with fail
       have HB4:=zC (HBr.out.alloc HBr.out.size (.cells #[.int .i64 3,.int .i64 0,.string ⟨#[]⟩,.slice none 0 0] 70))
       have HK4:=zC (HKa.out.alloc (.cells #[.int .i64 3,.int .i64 0,.string ⟨#[]⟩,.slice none 0 0] 70))
       have HF4:Hid (Four (wr.alloc (.cells #[.int .i64 3,.int .i64 0,.string ⟨#[]⟩,.slice none 0 0] 70)) wr.heap.size 70 (.int .i64 3) (.int .i64 0) (.string ⟨#[]⟩) (.slice none 0 0)):=zC (heap_alloc_new wr _)
       have HS4:Hid ((wr.alloc (.cells #[.int .i64 3,.int .i64 0,.string ⟨#[]⟩,.slice none 0 0] 70)).heap.size=wr.heap.size+1):=zC (by simp)
       have HBX4:=zC ((heap_alloc_old wr (.cells #[.int .i64 3,.int .i64 0,.string ⟨#[]⟩,.slice none 0 0] 70) (lt_of_block HBOX.out)).trans HBOX.out)
       have HVA4:=zC (V.At.move (w':=wr.alloc (.cells #[.int .i64 3,.int .i64 0,.string ⟨#[]⟩,.slice none 0 0] 70)) (T:=fun p=>p<wr.heap.size) (fun p hp=>hp) (fun p hp=>heap_alloc_old wr _ hp) _ _ HVAT.out)
       have hwx:w1.heap.size<wr.heap.size:=lt_of_block HBOX.out
       generalize (wr.alloc (.cells #[.int .i64 3,.int .i64 0,.string ⟨#[]⟩,.slice none 0 0] 70))=w4 at *
       generalize wr=wa at *
       have hs4:=HS4.out
       have HM1:Hid (MakingB w4.heap.size wa.heap.size [] none 0 [] w4):=zC (MakingB.start _ _ _ (by omega) (Nat.le_refl _) HF4.out)
       have x7:=HK4.out.cell (j:=7) rfl
       go_wp2_with fail
       clear x7
       go_loopg [36] nr (fun gk v wr=>∃ (k2:Nat) (acc2:List V) (vb:Option Addr) (vd:Nat) (cells2:List Value),k2≤nr∧gk=nr - k2∧v = .int .i64 (k2:Int)∧Hid (acc2=(rs.take k2).map recV)∧Hid (MakingB w4.heap.size wa.heap.size acc2 vb vd cells2 wr)∧Hid (KeptB w4.heap.size wa.heap.size w4 wr))
       case atStart=>exact⟨0,[],none,0,[],Nat.zero_le _,rfl,rfl,zC rfl,HM1,zC (KeptB.refl _ _ _)⟩
       case round =>
        clear HM1
        obtain⟨k2,acc2,vb,vd,cells2,hk2,rfl,rfl,HACC2,hM2,hKP2⟩:=hrel
        have HL2:Hid (acc2.length=k2):=zC (by rw [HACC2.out,List.length_map,List.length_take]; have:=HN.out; omega)
        have HBs:=zC (HB4.out.trans (hKP2.out.below (B:=w.heap.size) (by omega) (by omega)))
        by_cases hkn:k2<nr
        ·have hki:(k2:Int)<(nr:Int):=by omega
         have hkl:k2<rs.length:=by rw [← HN.out]; exact hkn
         obtain⟨b,off,rfl,hc⟩:=rc_at (HRO.out.keep HBs.out) (by omega)
         obtain⟨c0,c1,c2⟩:=hc k2 hkl
         have HLI:Hid (acc2.length≤200):=zC (by have:=HL2.out; have:=HN.out; omega)
         have HMT:Hid (acc2++[recV rs[k2]]=(rs.take (k2+1)).map recV):=zC (by rw [HACC2.out,List.take_add_one,List.getElem?_eq_getElem hkl,List.map_append]; rfl)
         clear hc
         generalize rs[k2]=r at *
         obtain⟨rt,rk,rd⟩:=r
         dsimp only at c0 c1 c2
         have hbq:Below wr.heap.size wr (wr.alloc (.cells #[.int .i64 rt,.int .i64 rk,.string rd] 67)):=(Below.refl _ wr).alloc (Nat.le_refl _) _
         have HMq:=zC (hM2.out.under hbq)
         have KPq:=zC (hKP2.out.under hbq hM2.out.le)
         have HRq:Hid ((wr.alloc (.cells #[.int .i64 rt,.int .i64 rk,.string rd] 67)).heap[wr.heap.size]? = some (.cells #[.int .i64 rt,.int .i64 rk,.string rd] 67 (0,0))):=zC (heap_alloc_new wr _)
         have HOL:=zC hM2.out.own.lt
         have hsq:wr.heap.size<(wr.alloc (.cells #[.int .i64 rt,.int .i64 rk,.string rd] 67)).heap.size:=by simp
         have HSQ:=zC hsq
         clear hbq hM2 hKP2 hsq
         go_wp2_with fail
         clear c0 c1 c2
         generalize (wr.alloc (.cells #[.int .i64 rt,.int .i64 rk,.string rd] 67))=wq at *
         refine wp_region_lastE (regOf Tryz.f11 16) [some 40,some 41,some 42,some 43,some 44,some 45,some 46,some 47,some 48,some 49,some 50,some 51,some 52,some 53,some 54,some 55] 16 (rprT w4.heap.size wa.heap.size wr.heap.size rt rk rd vb vd acc2 cells2 wq) (fun e w'=>(wq.grownBy w' (Value.slice vb acc2.length vd).ownBlock)∧(e 14=none→MakingB w4.heap.size wa.heap.size acc2 vb vd cells2 w')) rprD (by kernel_rfl) (by kernel_rfl) (by kernel_rfl) (by kernel_rfl) (by kernel_rfl) (by kernel_rfl) (by kernel_rfl) ⟨grown_of_below ((Below.refl _ _).drew) _,fun _=>HMq.out.under ((Below.refl _ _).drew)⟩
          (rpr_steps w4.heap.size wa.heap.size wr.heap.size rt rk rd vb vd acc2 cells2 wq (HMq.out.le) (HSQ.out) (fun e=>by have:=(HOL.out _ e.symm).2; omega) HRq.out (fun k hk=>(HMq.out.own.lt k hk).2) (by have:=HLI.out; omega) (by kernel_rfl) (by kernel_rfl) (by kernel_rfl) (by kernel_rfl)) ?_
         intro oL hoL eL vs w9 hn hallL hCw9 hT KL hKL
         replace hn:vs.length=16:=hn
         obtain⟨v0,vs1,rfl,hn1⟩:=len_cons hn
         obtain⟨v1,vs2,rfl,hn2⟩:=len_cons hn1
         obtain⟨v2,vs3,rfl,hn3⟩:=len_cons hn2
         obtain⟨v3,vs4,rfl,hn4⟩:=len_cons hn3
         obtain⟨v4,vs5,rfl,hn5⟩:=len_cons hn4
         obtain⟨v5,vs6,rfl,hn6⟩:=len_cons hn5
         obtain⟨v6,vs7,rfl,hn7⟩:=len_cons hn6
         obtain⟨v7,vs8,rfl,hn8⟩:=len_cons hn7
         obtain⟨v8,vs9,rfl,hn9⟩:=len_cons hn8
         obtain⟨v9,vs10,rfl,hn10⟩:=len_cons hn9
         obtain⟨v10,vs11,rfl,hn11⟩:=len_cons hn10
         obtain⟨v11,vs12,rfl,hn12⟩:=len_cons hn11
         obtain⟨v12,vs13,rfl,hn13⟩:=len_cons hn12
         obtain⟨v13,vs14,rfl,hn14⟩:=len_cons hn13
         obtain⟨v14,vs15,rfl,hn15⟩:=len_cons hn14
         obtain⟨v15,vs16,rfl,hn16⟩:=len_cons hn15
         obtain rfl:=List.eq_nil_of_length_eq_zero hn16
         clear hn hn1 hn2 hn3 hn4 hn5 hn6 hn7 hn8 hn9 hn10 hn11 hn12 hn13 hn14 hn15 hn16
         obtain rfl:v0 = .pointer (some ⟨wa.heap.size,3,none⟩):=hT 0 v0 rfl (by kernel_rfl)
         obtain rfl:v1 = .slice vb acc2.length vd:=hT 1 v1 rfl (by kernel_rfl)
         obtain rfl:v2 = .pointer (some ⟨wr.heap.size,0,none⟩):=hT 2 v2 rfl (by kernel_rfl)
         obtain rfl:v3 = .int .i64 rt:=hT 3 v3 rfl (by kernel_rfl)
         obtain rfl:v4 = .agg #[.int .i64 1,.int .i64 rt,.string ⟨#[]⟩,.slice none 0 0]:=hT 4 v4 rfl (by kernel_rfl)
         obtain rfl:v5 = .pointer (some ⟨wr.heap.size,1,none⟩):=hT 5 v5 rfl (by kernel_rfl)
         obtain rfl:v6 = .int .i64 rk:=hT 6 v6 rfl (by kernel_rfl)
         obtain rfl:v7 = .agg #[.int .i64 1,.int .i64 rk,.string ⟨#[]⟩,.slice none 0 0]:=hT 7 v7 rfl (by kernel_rfl)
         obtain rfl:v8 = .pointer (some ⟨wr.heap.size,2,none⟩):=hT 8 v8 rfl (by kernel_rfl)
         obtain rfl:v9 = .string rd:=hT 9 v9 rfl (by kernel_rfl)
         obtain rfl:v10 = .agg #[.int .i64 2,.int .i64 0,.string rd,.slice none 0 0]:=hT 10 v10 rfl (by kernel_rfl)
         have t11:=zC (hT 11 v11 rfl (by kernel_rfl))
         have t12:=zC (hT 12 v12 rfl (by kernel_rfl))
         have t14:=zC (hT 14 v14 rfl (by kernel_rfl))
         obtain rfl:v15 = .pointer (some ⟨wa.heap.size,3,none⟩):=hT 15 v15 rfl (by kernel_rfl)
         clear hT
         have hoL1:=opIs hoL (p:=.store 68 (.tmp 55) (.tmp 54)) (by kernel_rfl)
         have hgL:=guardIs hoL (p:=none) (by kernel_rfl)
         have hdL:oL.dst=none:=by have:=(show ((regOf Tryz.f11 16)[16]?).map (·.dst)=some (none) by kernel_rfl); rw [hoL] at this; simpa using this
         rw [if_pos (wanted_free hgL)]
         rw [hdL] at hKL
         simp only [puts,Act.put,List.setIfInBounds_toArray,List.set_cons_succ,List.set_cons_zero] at hKL ⊢
         obtain⟨hC9,-⟩:=hCw9
         obtain⟨a3,c3,cells3,e11,hmade⟩:=t14.out
         subst e11
         have e3:=hmade.box.c3
         have k3:=hmade.box.free 3
         unfold Oper.wp
         rw [show (execOp _ oL).run Tryz.prog w9 = .ok .skip (w9.setCell ⟨wa.heap.size,3,none⟩ (.slice a3 (acc2.length+[recV ⟨rt,rk,rd⟩].length) c3)) by unfold execOp; simp only [hoL1]; simp [go_sem,e3,k3]]
         show KL (Act.put _ oL.dst undef) _
         rw [hdL]
         refine hKL undef _ ?_
         have HMK:=zC hmade.store
         have HKN:=zC ((KPq.out.grown hC9 (by have:=HMq.out.le; omega) (fun k hk=>.inl (HMq.out.own.lt k hk).1)).grown (grown_setCell w9 wa.heap.size 3 (.slice a3 (acc2.length+[recV ⟨rt,rk,rd⟩].length) c3)) (by have:=hC9.size; have:=HMq.out.le; omega) (fun k hk=>.inr (Option.some.inj hk).symm))
         clear e3 k3 hmade t11 t12 t14 hC9 hKL hoL hoL1 hgL hdL hallL
         generalize w9.setCell ⟨wa.heap.size,3,none⟩ (.slice a3 (acc2.length+[recV ⟨rt,rk,rd⟩].length) c3)=w10 at *
         go_wp2_with fail
         go_roundg (nr - (k2+1))
         case rel=>exact⟨k2+1,_,a3,c3,cells3,by omega,rfl,by go_num,HMT,HMK,HKN⟩
         case measure=>omega
        ·obtain rfl:k2=nr:=by omega
         have HACR:Hid (acc2=rs.map recV):=zC (by rw [HACC2.out,HN.out,List.take_length])
         have hKs:=show Blk wr w.heap.size _ _ from (hKP2.out.block _ (by omega) (by omega)).trans HK4.out
         have hBX:=(hKP2.out.block _ (by omega) (by omega)).trans HBX4.out
         have hle2:=hM2.out.le
         have hva:=V.At.move (w':=wr) (T:=fun p=>p<wr.heap.size) (fun p (hp:p<wa.heap.size)=>by omega) (fun p (hp:p<wa.heap.size)=>hKP2.out.block p (by omega) (by omega)) _ _ HVA4.out
         have hra:=V.At.move (w':=wr) (T:=fun p=>p<wr.heap.size) (fun p hp=>hp.2) (fun _ _=>rfl) _ _ hM2.out.at
         rw [HACR.out] at hra
         have hlen:acc2.length=(rs.map recV).length:=by rw [HACR.out]
         rw [← hlen] at hra
         have hput:=(fun (W:World) (cs:List Value) (hb:Below wr.heap.size wr W) (hat:V.At W (fun p=>p<W.heap.size) (msV ⟨kd,fr,ds,tm,false,ix,lt,rs,cm,sn,vs⟩) cs)=>HPT.out (by trivial) W cs (HBs.out.trans (Below.lower hb HBs.out.size)) hat)
         clear HPT
         go_wp2_with fail
         refine wp_region_set (regOf Tryz.f11 18) [some 57,some 58,some 59,some 60,some 61,some 62,some 63,some 64,some 65,some 66,some 67,some 68,some 69,some 70,some 71,some 72,some 73,some 74,some 75,some 76,some 77,some 78,some 79,some 80,some 81,some 82,some 83,some 84,some 85,some 86,some 87,some 88,some 89,some 2,some 3] (rpmT w.heap.size w1.heap.size wa.heap.size kd fr ds tm false ix lt ar k2 cr cm sn av k cv va acc.length vc vb acc2.length vd rs vs P1 P2 wr) (fun w'=>Below wr.heap.size wr w') rpmD (by kernel_rfl) (by kernel_rfl) (by kernel_rfl) (by kernel_rfl) (by kernel_rfl) ((Below.refl _ _).drew)
          (rpm_steps w.heap.size w1.heap.size wa.heap.size kd fr ds tm false ix lt ar k2 cr cm sn av k cv va acc.length vc vb acc2.length vd rs vs P1 P2 wr (by omega) hKs (by omega) hBX (by omega) hM2.out.box hva hra hput (by kernel_rfl) (by kernel_rfl) (by kernel_rfl) (by kernel_rfl) (by kernel_rfl)) ?_
         intro vs w9 hn hCw9 hT
         replace hn:vs.length=35:=hn
         obtain⟨v0,vs1,rfl,hn1⟩:=len_cons hn
         obtain⟨v1,vs2,rfl,hn2⟩:=len_cons hn1
         obtain⟨v2,vs3,rfl,hn3⟩:=len_cons hn2
         obtain⟨v3,vs4,rfl,hn4⟩:=len_cons hn3
         obtain⟨v4,vs5,rfl,hn5⟩:=len_cons hn4
         obtain⟨v5,vs6,rfl,hn6⟩:=len_cons hn5
         obtain⟨v6,vs7,rfl,hn7⟩:=len_cons hn6
         obtain⟨v7,vs8,rfl,hn8⟩:=len_cons hn7
         obtain⟨v8,vs9,rfl,hn9⟩:=len_cons hn8
         obtain⟨v9,vs10,rfl,hn10⟩:=len_cons hn9
         obtain⟨v10,vs11,rfl,hn11⟩:=len_cons hn10
         obtain⟨v11,vs12,rfl,hn12⟩:=len_cons hn11
         obtain⟨v12,vs13,rfl,hn13⟩:=len_cons hn12
         obtain⟨v13,vs14,rfl,hn14⟩:=len_cons hn13
         obtain⟨v14,vs15,rfl,hn15⟩:=len_cons hn14
         obtain⟨v15,vs16,rfl,hn16⟩:=len_cons hn15
         obtain⟨v16,vs17,rfl,hn17⟩:=len_cons hn16
         obtain⟨v17,vs18,rfl,hn18⟩:=len_cons hn17
         obtain⟨v18,vs19,rfl,hn19⟩:=len_cons hn18
         obtain⟨v19,vs20,rfl,hn20⟩:=len_cons hn19
         obtain⟨v20,vs21,rfl,hn21⟩:=len_cons hn20
         obtain⟨v21,vs22,rfl,hn22⟩:=len_cons hn21
         obtain⟨v22,vs23,rfl,hn23⟩:=len_cons hn22
         obtain⟨v23,vs24,rfl,hn24⟩:=len_cons hn23
         obtain⟨v24,vs25,rfl,hn25⟩:=len_cons hn24
         obtain⟨v25,vs26,rfl,hn26⟩:=len_cons hn25
         obtain⟨v26,vs27,rfl,hn27⟩:=len_cons hn26
         obtain⟨v27,vs28,rfl,hn28⟩:=len_cons hn27
         obtain⟨v28,vs29,rfl,hn29⟩:=len_cons hn28
         obtain⟨v29,vs30,rfl,hn30⟩:=len_cons hn29
         obtain⟨v30,vs31,rfl,hn31⟩:=len_cons hn30
         obtain⟨v31,vs32,rfl,hn32⟩:=len_cons hn31
         obtain⟨v32,vs33,rfl,hn33⟩:=len_cons hn32
         obtain⟨v33,vs34,rfl,hn34⟩:=len_cons hn33
         obtain⟨v34,vs35,rfl,hn35⟩:=len_cons hn34
         obtain rfl:=List.eq_nil_of_length_eq_zero hn35
         clear hn hn1 hn2 hn3 hn4 hn5 hn6 hn7 hn8 hn9 hn10 hn11 hn12 hn13 hn14 hn15 hn16 hn17 hn18 hn19 hn20 hn21 hn22 hn23 hn24 hn25 hn26 hn27 hn28 hn29 hn30 hn31 hn32 hn33 hn34 hn35
         obtain rfl:v0 = .pointer (some ⟨w.heap.size,0,none⟩):=hT 0 v0 rfl (by kernel_rfl)
         obtain rfl:v1 = .int .i64 kd:=hT 1 v1 rfl (by kernel_rfl)
         obtain rfl:v2 = .agg #[.int .i64 1,.int .i64 kd,.string ⟨#[]⟩,.slice none 0 0]:=hT 2 v2 rfl (by kernel_rfl)
         obtain rfl:v3 = .pointer (some ⟨w.heap.size,1,none⟩):=hT 3 v3 rfl (by kernel_rfl)
         obtain rfl:v4 = .int .i64 fr:=hT 4 v4 rfl (by kernel_rfl)
         obtain rfl:v5 = .agg #[.int .i64 1,.int .i64 fr,.string ⟨#[]⟩,.slice none 0 0]:=hT 5 v5 rfl (by kernel_rfl)
         obtain rfl:v6 = .pointer (some ⟨w.heap.size,2,none⟩):=hT 6 v6 rfl (by kernel_rfl)
         obtain rfl:v7 = .int .i64 ds:=hT 7 v7 rfl (by kernel_rfl)
         obtain rfl:v8 = .agg #[.int .i64 1,.int .i64 ds,.string ⟨#[]⟩,.slice none 0 0]:=hT 8 v8 rfl (by kernel_rfl)
         obtain rfl:v9 = .pointer (some ⟨w.heap.size,3,none⟩):=hT 9 v9 rfl (by kernel_rfl)
         obtain rfl:v10 = .int .i64 tm:=hT 10 v10 rfl (by kernel_rfl)
         obtain rfl:v11 = .agg #[.int .i64 1,.int .i64 tm,.string ⟨#[]⟩,.slice none 0 0]:=hT 11 v11 rfl (by kernel_rfl)
         obtain rfl:v12 = .int .i64 (okI false):=hT 12 v12 rfl (by kernel_rfl)
         obtain rfl:v13 = .agg #[.int .i64 1,.int .i64 (okI false),.string ⟨#[]⟩,.slice none 0 0]:=hT 13 v13 rfl (by kernel_rfl)
         obtain rfl:v14 = .pointer (some ⟨w.heap.size,5,none⟩):=hT 14 v14 rfl (by kernel_rfl)
         obtain rfl:v15 = .int .i64 ix:=hT 15 v15 rfl (by kernel_rfl)
         obtain rfl:v16 = .agg #[.int .i64 1,.int .i64 ix,.string ⟨#[]⟩,.slice none 0 0]:=hT 16 v16 rfl (by kernel_rfl)
         obtain rfl:v17 = .pointer (some ⟨w.heap.size,6,none⟩):=hT 17 v17 rfl (by kernel_rfl)
         obtain rfl:v18 = .int .i64 lt:=hT 18 v18 rfl (by kernel_rfl)
         obtain rfl:v19 = .agg #[.int .i64 1,.int .i64 lt,.string ⟨#[]⟩,.slice none 0 0]:=hT 19 v19 rfl (by kernel_rfl)
         obtain rfl:v20 = .pointer (some ⟨w.heap.size,8,none⟩):=hT 20 v20 rfl (by kernel_rfl)
         obtain rfl:v21 = .int .i64 cm:=hT 21 v21 rfl (by kernel_rfl)
         obtain rfl:v22 = .agg #[.int .i64 1,.int .i64 cm,.string ⟨#[]⟩,.slice none 0 0]:=hT 22 v22 rfl (by kernel_rfl)
         obtain rfl:v23 = .pointer (some ⟨w.heap.size,9,none⟩):=hT 23 v23 rfl (by kernel_rfl)
         obtain rfl:v24 = .string sn:=hT 24 v24 rfl (by kernel_rfl)
         obtain rfl:v25 = .agg #[.int .i64 2,.int .i64 0,.string sn,.slice none 0 0]:=hT 25 v25 rfl (by kernel_rfl)
         obtain rfl:v26 = .agg #[.int .i64 3,.int .i64 0,.string ⟨#[]⟩,.slice va acc.length vc]:=hT 26 v26 rfl (by kernel_rfl)
         obtain rfl:v27 = .agg #[.int .i64 3,.int .i64 0,.string ⟨#[]⟩,.slice vb acc2.length vd]:=hT 27 v27 rfl (by kernel_rfl)
         have t28:=zC (hT 28 v28 rfl (by kernel_rfl))
         have t29:=zC (hT 29 v29 rfl (by kernel_rfl))
         obtain rfl:v30 = .tuple #[.string P1,.int .i64 P2]:=hT 30 v30 rfl (by kernel_rfl)
         obtain rfl:v31 = .string P1:=hT 31 v31 rfl (by kernel_rfl)
         obtain rfl:v32 = .int .i64 P2:=hT 32 v32 rfl (by kernel_rfl)
         obtain rfl:v33 = .string P1:=hT 33 v33 rfl (by kernel_rfl)
         obtain rfl:v34 = .int .i64 P2:=hT 34 v34 rfl (by kernel_rfl)
         clear hT
         simp only [puts,Act.put,List.setIfInBounds_toArray,List.set_cons_succ,List.set_cons_zero]
         have HB9:=zC (HBs.out.trans (Below.lower hCw9 HBs.out.size))
         have hgg:=HGG.out
         subst hgg
         clear hput hva hra hlen hCw9
         go_wp2_with fail
         go_ret2
         exact⟨rfl,HB9.out⟩
 | true =>
   have HB0:=zC ((Below.refl _ w).alloc (Nat.le_refl _) (.cells #[.int .i64 kd,.int .i64 fr,.int .i64 ds,.int .i64 tm,.bool true,.int .i64 ix,.int .i64 lt,.slice ar nr cr,.int .i64 cm,.string sn,.slice av nv cv] 25))
   have HK0:Hid (Blk (w.alloc (.cells #[.int .i64 kd,.int .i64 fr,.int .i64 ds,.int .i64 tm,.bool true,.int .i64 ix,.int .i64 lt,.slice ar nr cr,.int .i64 cm,.string sn,.slice av nv cv] 25)) w.heap.size 25 [.int .i64 kd,.int .i64 fr,.int .i64 ds,.int .i64 tm,.bool true,.int .i64 ix,.int .i64 lt,.slice ar nr cr,.int .i64 cm,.string sn,.slice av nv cv]):=zC (heap_alloc_new w _)
   have x0:=HK0.out.cell (j:=0) rfl
   have x1:=HK0.out.cell (j:=1) rfl
   have x2:=HK0.out.cell (j:=2) rfl
   have x3:=HK0.out.cell (j:=3) rfl
   have x4:=HK0.out.cell (j:=4) rfl
   have x5:=HK0.out.cell (j:=5) rfl
   have x6:=HK0.out.cell (j:=6) rfl
   have x7:=HK0.out.cell (j:=7) rfl
   have x8:=HK0.out.cell (j:=8) rfl
   have x9:=HK0.out.cell (j:=9) rfl
   have x10:=HK0.out.cell (j:=10) rfl
   go_enter Tryz.func11,Tryz.ntmps11
   go_wp2_with fail
   refine (HMAY.out _ HB0.out).mono ?_
   rintro e w1 ⟨rfl,hb1⟩
   dsimp only
   have HB1:=zC (below_then HB0.out hb1 HB0.out.size)
   have HK1:=zC (HK0.out.keep hb1)
   clear x0 x1 x2 x3 x4 x5 x6 x7 x8 x9 x10 HB0 HK0 hb1 HMAY
   cases v with
   | false =>
     obtain rfl:=HG1.out (by rfl)
     go_wp2_with fail
     go_ret2
     exact⟨rfl,HB1.out⟩
   | true =>
     have x4:=HK1.out.cell (j:=4) rfl
     have HGG:=zC (HG2.out (by trivial))
     have h7:=(hfew.out (by trivial)).1
     have h20:=(hfew.out (by trivial)).2.1
     clear HG1 HG2 hfew
     go_upto_region 7 with fail
     clear x4
     have HB2:=zC (HB1.out.alloc HB1.out.size (.cells #[.int .i64 3,.int .i64 0,.string ⟨#[]⟩,.slice none 0 0] 70))
     have HK2:=zC (HK1.out.alloc (.cells #[.int .i64 3,.int .i64 0,.string ⟨#[]⟩,.slice none 0 0] 70))
     have HF2:Hid (Four (w1.alloc (.cells #[.int .i64 3,.int .i64 0,.string ⟨#[]⟩,.slice none 0 0] 70)) w1.heap.size 70 (.int .i64 3) (.int .i64 0) (.string ⟨#[]⟩) (.slice none 0 0)):=zC (heap_alloc_new w1 _)
     have HS2:Hid ((w1.alloc (.cells #[.int .i64 3,.int .i64 0,.string ⟨#[]⟩,.slice none 0 0] 70)).heap.size=w1.heap.size+1):=zC (by simp)
     have hwK:w.heap.size<w1.heap.size:=lt_of_block HK1.out
     generalize (w1.alloc (.cells #[.int .i64 3,.int .i64 0,.string ⟨#[]⟩,.slice none 0 0] 70))=w2 at *
     have hs2:=HS2.out
     have HM0:Hid (MakingB w2.heap.size w1.heap.size [] none 0 [] w2):=zC (MakingB.start _ _ _ (by omega) (Nat.le_refl _) HF2.out)
     have x10:=HK2.out.cell (j:=10) rfl
     go_wp2_with fail
     clear x10
     go_loopg [20] nv (fun gk v wr=>∃ (k:Nat) (acc:List V) (va:Option Addr) (vc:Nat) (cells:List Value),k≤nv∧gk=nv - k∧v = .int .i64 (k:Int)∧Hid (acc=(vs.take k).map numV)∧Hid (MakingB w2.heap.size w1.heap.size acc va vc cells wr)∧Hid (KeptB w2.heap.size w1.heap.size w2 wr))
     case atStart=>exact⟨0,[],none,0,[],Nat.zero_le _,rfl,rfl,zC rfl,HM0,zC (KeptB.refl _ _ _)⟩
     case round =>
      clear HM0
      obtain⟨k,acc,va,vc,cells,hk,rfl,rfl,HACC,hM,hKP⟩:=hrel
      have HL:Hid (acc.length=k):=zC (by rw [HACC.out,List.length_map,List.length_take]; have:=HNV.out; omega)
      have HBr:=zC (HB2.out.trans (hKP.out.below (B:=w.heap.size) (by omega) (by omega)))
      by_cases hkn:k<nv
      ·have hki:(k:Int)<(nv:Int):=by omega
       have hkl:k<vs.length:=by rw [← HNV.out]; exact hkn
       obtain⟨-,b,off,rfl,hc⟩:=(HVO.out.keep HBr.out).i64 (by omega)
       have c0:=hc k hkl
       have HLI:Hid (acc.length≤7):=zC (by have:=HL.out; have:=HNV.out; omega)
       have HMT:Hid (acc++[numV vs[k]]=(vs.take (k+1)).map numV):=zC (by rw [HACC.out,List.take_add_one,List.getElem?_eq_getElem hkl,List.map_append]; rfl)
       clear hc
       generalize vs[k]=xv at *
       go_wp2_with fail
       clear c0
       refine wp_region_lastE (regOf Tryz.f11 10) [some 24,some 25,some 26,some 27,some 28,some 29,some 30] 7 (rpnT w2.heap.size w1.heap.size xv va vc acc cells wr) (fun e w'=>(wr.grownBy w' (Value.slice va acc.length vc).ownBlock)∧(e 5=none→MakingB w2.heap.size w1.heap.size acc va vc cells w')) rpnD (by kernel_rfl) (by kernel_rfl) (by kernel_rfl) (by kernel_rfl) (by kernel_rfl) (by kernel_rfl) (by kernel_rfl) ⟨grown_of_below ((Below.refl _ _).drew) _,fun _=>hM.out.under ((Below.refl _ _).drew)⟩
        (rpn_steps w2.heap.size w1.heap.size xv va vc acc cells wr (hM.out.le) (fun k hk=>(hM.out.own.lt k hk).2) (by have:=HLI.out; omega) (by kernel_rfl) (by kernel_rfl) (by kernel_rfl) (by kernel_rfl)) ?_
       intro oL hoL eL vs w9 hn hallL hCw9 hT KL hKL
       replace hn:vs.length=7:=hn
       obtain⟨v0,vs1,rfl,hn1⟩:=len_cons hn
       obtain⟨v1,vs2,rfl,hn2⟩:=len_cons hn1
       obtain⟨v2,vs3,rfl,hn3⟩:=len_cons hn2
       obtain⟨v3,vs4,rfl,hn4⟩:=len_cons hn3
       obtain⟨v4,vs5,rfl,hn5⟩:=len_cons hn4
       obtain⟨v5,vs6,rfl,hn6⟩:=len_cons hn5
       obtain⟨v6,vs7,rfl,hn7⟩:=len_cons hn6
       obtain rfl:=List.eq_nil_of_length_eq_zero hn7
       clear hn hn1 hn2 hn3 hn4 hn5 hn6 hn7
       obtain rfl:v0 = .pointer (some ⟨w1.heap.size,3,none⟩):=hT 0 v0 rfl (by kernel_rfl)
       obtain rfl:v1 = .slice va acc.length vc:=hT 1 v1 rfl (by kernel_rfl)
       obtain rfl:v2 = .int .i64 xv:=hT 2 v2 rfl (by kernel_rfl)
       obtain rfl:v3 = .agg #[.int .i64 1,.int .i64 xv,.string ⟨#[]⟩,.slice none 0 0]:=hT 3 v3 rfl (by kernel_rfl)
       have t5:=zC (hT 5 v5 rfl (by kernel_rfl))
       obtain rfl:v6 = .pointer (some ⟨w1.heap.size,3,none⟩):=hT 6 v6 rfl (by kernel_rfl)
       clear hT
       have hoL1:=opIs hoL (p:=.store 68 (.tmp 30) (.tmp 29)) (by kernel_rfl)
       have hgL:=guardIs hoL (p:=none) (by kernel_rfl)
       have hdL:oL.dst=none:=by have:=(show ((regOf Tryz.f11 10)[7]?).map (·.dst)=some (none) by kernel_rfl); rw [hoL] at this; simpa using this
       rw [if_pos (wanted_free hgL)]
       rw [hdL] at hKL
       simp only [puts,Act.put,List.setIfInBounds_toArray,List.set_cons_succ,List.set_cons_zero] at hKL ⊢
       obtain⟨hC9,-⟩:=hCw9
       obtain⟨a3,c3,cells3,e11,hmade⟩:=t5.out
       subst e11
       have e3:=hmade.box.c3
       have k3:=hmade.box.free 3
       unfold Oper.wp
       rw [show (execOp _ oL).run Tryz.prog w9 = .ok .skip (w9.setCell ⟨w1.heap.size,3,none⟩ (.slice a3 (acc.length+[numV xv].length) c3)) by unfold execOp; simp only [hoL1]; simp [go_sem,e3,k3]]
       show KL (Act.put _ oL.dst undef) _
       rw [hdL]
       refine hKL undef _ ?_
       have HMK:=zC hmade.store
       have HKN:=zC ((hKP.out.grown hC9 (by have:=hM.out.le; omega) (fun k hk=>.inl (hM.out.own.lt k hk).1)).grown (grown_setCell w9 w1.heap.size 3 (.slice a3 (acc.length+[numV xv].length) c3)) (by have:=hC9.size; have:=hM.out.le; omega) (fun k hk=>.inr (Option.some.inj hk).symm))
       clear e3 k3 hmade t5 hC9 hKL hoL hoL1 hgL hdL hallL
       generalize w9.setCell ⟨w1.heap.size,3,none⟩ (.slice a3 (acc.length+[numV xv].length) c3)=w10 at *
       go_wp2_with fail
       go_roundg (nv - (k+1))
       case rel=>exact⟨k+1,_,a3,c3,cells3,by omega,rfl,by go_num,HMT,HMK,HKN⟩
       case measure=>omega
      ·obtain rfl:k=nv:=by omega
       have HACV:Hid (acc=vs.map numV):=zC (by rw [HACC.out,HNV.out,List.take_length])
       have HKa:=zC (show Blk wr w.heap.size _ _ from (hKP.out.block _ (by omega) (by omega)).trans HK2.out)
       have hvat:=V.At.move (w':=wr) (T:=fun p=>p<wr.heap.size) (fun p hp=>hp.2) (fun _ _=>rfl) _ _ hM.out.at
       rw [HACV.out] at hvat
       have hlen:acc.length=(vs.map numV).length:=by rw [HACV.out]
       rw [← hlen] at hvat
       have HVAT:=zC hvat
       have HBOX:=zC hM.out.box
       clear hvat hlen hKP hM
       go_upto_region 13 with fail
       have HB4:=zC (HBr.out.alloc HBr.out.size (.cells #[.int .i64 3,.int .i64 0,.string ⟨#[]⟩,.slice none 0 0] 70))
       have HK4:=zC (HKa.out.alloc (.cells #[.int .i64 3,.int .i64 0,.string ⟨#[]⟩,.slice none 0 0] 70))
       have HF4:Hid (Four (wr.alloc (.cells #[.int .i64 3,.int .i64 0,.string ⟨#[]⟩,.slice none 0 0] 70)) wr.heap.size 70 (.int .i64 3) (.int .i64 0) (.string ⟨#[]⟩) (.slice none 0 0)):=zC (heap_alloc_new wr _)
       have HS4:Hid ((wr.alloc (.cells #[.int .i64 3,.int .i64 0,.string ⟨#[]⟩,.slice none 0 0] 70)).heap.size=wr.heap.size+1):=zC (by simp)
       have HBX4:=zC ((heap_alloc_old wr (.cells #[.int .i64 3,.int .i64 0,.string ⟨#[]⟩,.slice none 0 0] 70) (lt_of_block HBOX.out)).trans HBOX.out)
       have HVA4:=zC (V.At.move (w':=wr.alloc (.cells #[.int .i64 3,.int .i64 0,.string ⟨#[]⟩,.slice none 0 0] 70)) (T:=fun p=>p<wr.heap.size) (fun p hp=>hp) (fun p hp=>heap_alloc_old wr _ hp) _ _ HVAT.out)
       have hwx:w1.heap.size<wr.heap.size:=lt_of_block HBOX.out
       generalize (wr.alloc (.cells #[.int .i64 3,.int .i64 0,.string ⟨#[]⟩,.slice none 0 0] 70))=w4 at *
       generalize wr=wa at *
       have hs4:=HS4.out
       have HM1:Hid (MakingB w4.heap.size wa.heap.size [] none 0 [] w4):=zC (MakingB.start _ _ _ (by omega) (Nat.le_refl _) HF4.out)
       have x7:=HK4.out.cell (j:=7) rfl
       go_wp2_with fail
       clear x7
       go_loopg [36] nr (fun gk v wr=>∃ (k2:Nat) (acc2:List V) (vb:Option Addr) (vd:Nat) (cells2:List Value),k2≤nr∧gk=nr - k2∧v = .int .i64 (k2:Int)∧Hid (acc2=(rs.take k2).map recV)∧Hid (MakingB w4.heap.size wa.heap.size acc2 vb vd cells2 wr)∧Hid (KeptB w4.heap.size wa.heap.size w4 wr))
       case atStart=>exact⟨0,[],none,0,[],Nat.zero_le _,rfl,rfl,zC rfl,HM1,zC (KeptB.refl _ _ _)⟩
       case round =>
        clear HM1
        obtain⟨k2,acc2,vb,vd,cells2,hk2,rfl,rfl,HACC2,hM2,hKP2⟩:=hrel
        have HL2:Hid (acc2.length=k2):=zC (by rw [HACC2.out,List.length_map,List.length_take]; have:=HN.out; omega)
        have HBs:=zC (HB4.out.trans (hKP2.out.below (B:=w.heap.size) (by omega) (by omega)))
        by_cases hkn:k2<nr
        ·have hki:(k2:Int)<(nr:Int):=by omega
         have hkl:k2<rs.length:=by rw [← HN.out]; exact hkn
         obtain⟨b,off,rfl,hc⟩:=rc_at (HRO.out.keep HBs.out) (by omega)
         obtain⟨c0,c1,c2⟩:=hc k2 hkl
         have HLI:Hid (acc2.length≤200):=zC (by have:=HL2.out; have:=HN.out; omega)
         have HMT:Hid (acc2++[recV rs[k2]]=(rs.take (k2+1)).map recV):=zC (by rw [HACC2.out,List.take_add_one,List.getElem?_eq_getElem hkl,List.map_append]; rfl)
         clear hc
         generalize rs[k2]=r at *
         obtain⟨rt,rk,rd⟩:=r
         dsimp only at c0 c1 c2
         have hbq:Below wr.heap.size wr (wr.alloc (.cells #[.int .i64 rt,.int .i64 rk,.string rd] 67)):=(Below.refl _ wr).alloc (Nat.le_refl _) _
         have HMq:=zC (hM2.out.under hbq)
         have KPq:=zC (hKP2.out.under hbq hM2.out.le)
         have HRq:Hid ((wr.alloc (.cells #[.int .i64 rt,.int .i64 rk,.string rd] 67)).heap[wr.heap.size]? = some (.cells #[.int .i64 rt,.int .i64 rk,.string rd] 67 (0,0))):=zC (heap_alloc_new wr _)
         have HOL:=zC hM2.out.own.lt
         have hsq:wr.heap.size<(wr.alloc (.cells #[.int .i64 rt,.int .i64 rk,.string rd] 67)).heap.size:=by simp
         have HSQ:=zC hsq
         clear hbq hM2 hKP2 hsq
         go_wp2_with fail
         clear c0 c1 c2
         generalize (wr.alloc (.cells #[.int .i64 rt,.int .i64 rk,.string rd] 67))=wq at *
         refine wp_region_lastE (regOf Tryz.f11 16) [some 40,some 41,some 42,some 43,some 44,some 45,some 46,some 47,some 48,some 49,some 50,some 51,some 52,some 53,some 54,some 55] 16 (rprT w4.heap.size wa.heap.size wr.heap.size rt rk rd vb vd acc2 cells2 wq) (fun e w'=>(wq.grownBy w' (Value.slice vb acc2.length vd).ownBlock)∧(e 14=none→MakingB w4.heap.size wa.heap.size acc2 vb vd cells2 w')) rprD (by kernel_rfl) (by kernel_rfl) (by kernel_rfl) (by kernel_rfl) (by kernel_rfl) (by kernel_rfl) (by kernel_rfl) ⟨grown_of_below ((Below.refl _ _).drew) _,fun _=>HMq.out.under ((Below.refl _ _).drew)⟩
          (rpr_steps w4.heap.size wa.heap.size wr.heap.size rt rk rd vb vd acc2 cells2 wq (HMq.out.le) (HSQ.out) (fun e=>by have:=(HOL.out _ e.symm).2; omega) HRq.out (fun k hk=>(HMq.out.own.lt k hk).2) (by have:=HLI.out; omega) (by kernel_rfl) (by kernel_rfl) (by kernel_rfl) (by kernel_rfl)) ?_
         intro oL hoL eL vs w9 hn hallL hCw9 hT KL hKL
         replace hn:vs.length=16:=hn
         obtain⟨v0,vs1,rfl,hn1⟩:=len_cons hn
         obtain⟨v1,vs2,rfl,hn2⟩:=len_cons hn1
         obtain⟨v2,vs3,rfl,hn3⟩:=len_cons hn2
         obtain⟨v3,vs4,rfl,hn4⟩:=len_cons hn3
         obtain⟨v4,vs5,rfl,hn5⟩:=len_cons hn4
         obtain⟨v5,vs6,rfl,hn6⟩:=len_cons hn5
         obtain⟨v6,vs7,rfl,hn7⟩:=len_cons hn6
         obtain⟨v7,vs8,rfl,hn8⟩:=len_cons hn7
         obtain⟨v8,vs9,rfl,hn9⟩:=len_cons hn8
         obtain⟨v9,vs10,rfl,hn10⟩:=len_cons hn9
         obtain⟨v10,vs11,rfl,hn11⟩:=len_cons hn10
         obtain⟨v11,vs12,rfl,hn12⟩:=len_cons hn11
         obtain⟨v12,vs13,rfl,hn13⟩:=len_cons hn12
         obtain⟨v13,vs14,rfl,hn14⟩:=len_cons hn13
         obtain⟨v14,vs15,rfl,hn15⟩:=len_cons hn14
         obtain⟨v15,vs16,rfl,hn16⟩:=len_cons hn15
         obtain rfl:=List.eq_nil_of_length_eq_zero hn16
         clear hn hn1 hn2 hn3 hn4 hn5 hn6 hn7 hn8 hn9 hn10 hn11 hn12 hn13 hn14 hn15 hn16
         obtain rfl:v0 = .pointer (some ⟨wa.heap.size,3,none⟩):=hT 0 v0 rfl (by kernel_rfl)
         obtain rfl:v1 = .slice vb acc2.length vd:=hT 1 v1 rfl (by kernel_rfl)
         obtain rfl:v2 = .pointer (some ⟨wr.heap.size,0,none⟩):=hT 2 v2 rfl (by kernel_rfl)
         obtain rfl:v3 = .int .i64 rt:=hT 3 v3 rfl (by kernel_rfl)
         obtain rfl:v4 = .agg #[.int .i64 1,.int .i64 rt,.string ⟨#[]⟩,.slice none 0 0]:=hT 4 v4 rfl (by kernel_rfl)
         obtain rfl:v5 = .pointer (some ⟨wr.heap.size,1,none⟩):=hT 5 v5 rfl (by kernel_rfl)
         obtain rfl:v6 = .int .i64 rk:=hT 6 v6 rfl (by kernel_rfl)
         obtain rfl:v7 = .agg #[.int .i64 1,.int .i64 rk,.string ⟨#[]⟩,.slice none 0 0]:=hT 7 v7 rfl (by kernel_rfl)
         obtain rfl:v8 = .pointer (some ⟨wr.heap.size,2,none⟩):=hT 8 v8 rfl (by kernel_rfl)
         obtain rfl:v9 = .string rd:=hT 9 v9 rfl (by kernel_rfl)
         obtain rfl:v10 = .agg #[.int .i64 2,.int .i64 0,.string rd,.slice none 0 0]:=hT 10 v10 rfl (by kernel_rfl)
         have t11:=zC (hT 11 v11 rfl (by kernel_rfl))
         have t12:=zC (hT 12 v12 rfl (by kernel_rfl))
         have t14:=zC (hT 14 v14 rfl (by kernel_rfl))
         obtain rfl:v15 = .pointer (some ⟨wa.heap.size,3,none⟩):=hT 15 v15 rfl (by kernel_rfl)
         clear hT
         have hoL1:=opIs hoL (p:=.store 68 (.tmp 55) (.tmp 54)) (by kernel_rfl)
         have hgL:=guardIs hoL (p:=none) (by kernel_rfl)
         have hdL:oL.dst=none:=by have:=(show ((regOf Tryz.f11 16)[16]?).map (·.dst)=some (none) by kernel_rfl); rw [hoL] at this; simpa using this
         rw [if_pos (wanted_free hgL)]
         rw [hdL] at hKL
         simp only [puts,Act.put,List.setIfInBounds_toArray,List.set_cons_succ,List.set_cons_zero] at hKL ⊢
         obtain⟨hC9,-⟩:=hCw9
         obtain⟨a3,c3,cells3,e11,hmade⟩:=t14.out
         subst e11
         have e3:=hmade.box.c3
         have k3:=hmade.box.free 3
         unfold Oper.wp
         rw [show (execOp _ oL).run Tryz.prog w9 = .ok .skip (w9.setCell ⟨wa.heap.size,3,none⟩ (.slice a3 (acc2.length+[recV ⟨rt,rk,rd⟩].length) c3)) by unfold execOp; simp only [hoL1]; simp [go_sem,e3,k3]]
         show KL (Act.put _ oL.dst undef) _
         rw [hdL]
         refine hKL undef _ ?_
         have HMK:=zC hmade.store
         have HKN:=zC ((KPq.out.grown hC9 (by have:=HMq.out.le; omega) (fun k hk=>.inl (HMq.out.own.lt k hk).1)).grown (grown_setCell w9 wa.heap.size 3 (.slice a3 (acc2.length+[recV ⟨rt,rk,rd⟩].length) c3)) (by have:=hC9.size; have:=HMq.out.le; omega) (fun k hk=>.inr (Option.some.inj hk).symm))
         clear e3 k3 hmade t11 t12 t14 hC9 hKL hoL hoL1 hgL hdL hallL
         generalize w9.setCell ⟨wa.heap.size,3,none⟩ (.slice a3 (acc2.length+[recV ⟨rt,rk,rd⟩].length) c3)=w10 at *
         go_wp2_with fail
         go_roundg (nr - (k2+1))
         case rel=>exact⟨k2+1,_,a3,c3,cells3,by omega,rfl,by go_num,HMT,HMK,HKN⟩
         case measure=>omega
        ·obtain rfl:k2=nr:=by omega
         have HACR:Hid (acc2=rs.map recV):=zC (by rw [HACC2.out,HN.out,List.take_length])
         have hKs:=show Blk wr w.heap.size _ _ from (hKP2.out.block _ (by omega) (by omega)).trans HK4.out
         have hBX:=(hKP2.out.block _ (by omega) (by omega)).trans HBX4.out
         have hle2:=hM2.out.le
         have hva:=V.At.move (w':=wr) (T:=fun p=>p<wr.heap.size) (fun p (hp:p<wa.heap.size)=>by omega) (fun p (hp:p<wa.heap.size)=>hKP2.out.block p (by omega) (by omega)) _ _ HVA4.out
         have hra:=V.At.move (w':=wr) (T:=fun p=>p<wr.heap.size) (fun p hp=>hp.2) (fun _ _=>rfl) _ _ hM2.out.at
         rw [HACR.out] at hra
         have hlen:acc2.length=(rs.map recV).length:=by rw [HACR.out]
         rw [← hlen] at hra
         have hput:=(fun (W:World) (cs:List Value) (hb:Below wr.heap.size wr W) (hat:V.At W (fun p=>p<W.heap.size) (msV ⟨kd,fr,ds,tm,true,ix,lt,rs,cm,sn,vs⟩) cs)=>HPT.out (by trivial) W cs (HBs.out.trans (Below.lower hb HBs.out.size)) hat)
         clear HPT
         go_wp2_with fail
         refine wp_region_set (regOf Tryz.f11 18) [some 57,some 58,some 59,some 60,some 61,some 62,some 63,some 64,some 65,some 66,some 67,some 68,some 69,some 70,some 71,some 72,some 73,some 74,some 75,some 76,some 77,some 78,some 79,some 80,some 81,some 82,some 83,some 84,some 85,some 86,some 87,some 88,some 89,some 2,some 3] (rpmT w.heap.size w1.heap.size wa.heap.size kd fr ds tm true ix lt ar k2 cr cm sn av k cv va acc.length vc vb acc2.length vd rs vs P1 P2 wr) (fun w'=>Below wr.heap.size wr w') rpmD (by kernel_rfl) (by kernel_rfl) (by kernel_rfl) (by kernel_rfl) (by kernel_rfl) ((Below.refl _ _).drew)
          (rpm_steps w.heap.size w1.heap.size wa.heap.size kd fr ds tm true ix lt ar k2 cr cm sn av k cv va acc.length vc vb acc2.length vd rs vs P1 P2 wr (by omega) hKs (by omega) hBX (by omega) hM2.out.box hva hra hput (by kernel_rfl) (by kernel_rfl) (by kernel_rfl) (by kernel_rfl) (by kernel_rfl)) ?_
         intro vs w9 hn hCw9 hT
         replace hn:vs.length=35:=hn
         obtain⟨v0,vs1,rfl,hn1⟩:=len_cons hn
         obtain⟨v1,vs2,rfl,hn2⟩:=len_cons hn1
         obtain⟨v2,vs3,rfl,hn3⟩:=len_cons hn2
         obtain⟨v3,vs4,rfl,hn4⟩:=len_cons hn3
         obtain⟨v4,vs5,rfl,hn5⟩:=len_cons hn4
         obtain⟨v5,vs6,rfl,hn6⟩:=len_cons hn5
         obtain⟨v6,vs7,rfl,hn7⟩:=len_cons hn6
         obtain⟨v7,vs8,rfl,hn8⟩:=len_cons hn7
         obtain⟨v8,vs9,rfl,hn9⟩:=len_cons hn8
         obtain⟨v9,vs10,rfl,hn10⟩:=len_cons hn9
         obtain⟨v10,vs11,rfl,hn11⟩:=len_cons hn10
         obtain⟨v11,vs12,rfl,hn12⟩:=len_cons hn11
         obtain⟨v12,vs13,rfl,hn13⟩:=len_cons hn12
         obtain⟨v13,vs14,rfl,hn14⟩:=len_cons hn13
         obtain⟨v14,vs15,rfl,hn15⟩:=len_cons hn14
         obtain⟨v15,vs16,rfl,hn16⟩:=len_cons hn15
         obtain⟨v16,vs17,rfl,hn17⟩:=len_cons hn16
         obtain⟨v17,vs18,rfl,hn18⟩:=len_cons hn17
         obtain⟨v18,vs19,rfl,hn19⟩:=len_cons hn18
         obtain⟨v19,vs20,rfl,hn20⟩:=len_cons hn19
         obtain⟨v20,vs21,rfl,hn21⟩:=len_cons hn20
         obtain⟨v21,vs22,rfl,hn22⟩:=len_cons hn21
         obtain⟨v22,vs23,rfl,hn23⟩:=len_cons hn22
         obtain⟨v23,vs24,rfl,hn24⟩:=len_cons hn23
         obtain⟨v24,vs25,rfl,hn25⟩:=len_cons hn24
         obtain⟨v25,vs26,rfl,hn26⟩:=len_cons hn25
         obtain⟨v26,vs27,rfl,hn27⟩:=len_cons hn26
         obtain⟨v27,vs28,rfl,hn28⟩:=len_cons hn27
         obtain⟨v28,vs29,rfl,hn29⟩:=len_cons hn28
         obtain⟨v29,vs30,rfl,hn30⟩:=len_cons hn29
         obtain⟨v30,vs31,rfl,hn31⟩:=len_cons hn30
         obtain⟨v31,vs32,rfl,hn32⟩:=len_cons hn31
         obtain⟨v32,vs33,rfl,hn33⟩:=len_cons hn32
         obtain⟨v33,vs34,rfl,hn34⟩:=len_cons hn33
         obtain⟨v34,vs35,rfl,hn35⟩:=len_cons hn34
         obtain rfl:=List.eq_nil_of_length_eq_zero hn35
         clear hn hn1 hn2 hn3 hn4 hn5 hn6 hn7 hn8 hn9 hn10 hn11 hn12 hn13 hn14 hn15 hn16 hn17 hn18 hn19 hn20 hn21 hn22 hn23 hn24 hn25 hn26 hn27 hn28 hn29 hn30 hn31 hn32 hn33 hn34 hn35
         obtain rfl:v0 = .pointer (some ⟨w.heap.size,0,none⟩):=hT 0 v0 rfl (by kernel_rfl)
         obtain rfl:v1 = .int .i64 kd:=hT 1 v1 rfl (by kernel_rfl)
         obtain rfl:v2 = .agg #[.int .i64 1,.int .i64 kd,.string ⟨#[]⟩,.slice none 0 0]:=hT 2 v2 rfl (by kernel_rfl)
         obtain rfl:v3 = .pointer (some ⟨w.heap.size,1,none⟩):=hT 3 v3 rfl (by kernel_rfl)
         obtain rfl:v4 = .int .i64 fr:=hT 4 v4 rfl (by kernel_rfl)
         obtain rfl:v5 = .agg #[.int .i64 1,.int .i64 fr,.string ⟨#[]⟩,.slice none 0 0]:=hT 5 v5 rfl (by kernel_rfl)
         obtain rfl:v6 = .pointer (some ⟨w.heap.size,2,none⟩):=hT 6 v6 rfl (by kernel_rfl)
         obtain rfl:v7 = .int .i64 ds:=hT 7 v7 rfl (by kernel_rfl)
         obtain rfl:v8 = .agg #[.int .i64 1,.int .i64 ds,.string ⟨#[]⟩,.slice none 0 0]:=hT 8 v8 rfl (by kernel_rfl)
         obtain rfl:v9 = .pointer (some ⟨w.heap.size,3,none⟩):=hT 9 v9 rfl (by kernel_rfl)
         obtain rfl:v10 = .int .i64 tm:=hT 10 v10 rfl (by kernel_rfl)
         obtain rfl:v11 = .agg #[.int .i64 1,.int .i64 tm,.string ⟨#[]⟩,.slice none 0 0]:=hT 11 v11 rfl (by kernel_rfl)
         obtain rfl:v12 = .int .i64 (okI true):=hT 12 v12 rfl (by kernel_rfl)
         obtain rfl:v13 = .agg #[.int .i64 1,.int .i64 (okI true),.string ⟨#[]⟩,.slice none 0 0]:=hT 13 v13 rfl (by kernel_rfl)
         obtain rfl:v14 = .pointer (some ⟨w.heap.size,5,none⟩):=hT 14 v14 rfl (by kernel_rfl)
         obtain rfl:v15 = .int .i64 ix:=hT 15 v15 rfl (by kernel_rfl)
         obtain rfl:v16 = .agg #[.int .i64 1,.int .i64 ix,.string ⟨#[]⟩,.slice none 0 0]:=hT 16 v16 rfl (by kernel_rfl)
         obtain rfl:v17 = .pointer (some ⟨w.heap.size,6,none⟩):=hT 17 v17 rfl (by kernel_rfl)
         obtain rfl:v18 = .int .i64 lt:=hT 18 v18 rfl (by kernel_rfl)
         obtain rfl:v19 = .agg #[.int .i64 1,.int .i64 lt,.string ⟨#[]⟩,.slice none 0 0]:=hT 19 v19 rfl (by kernel_rfl)
         obtain rfl:v20 = .pointer (some ⟨w.heap.size,8,none⟩):=hT 20 v20 rfl (by kernel_rfl)
         obtain rfl:v21 = .int .i64 cm:=hT 21 v21 rfl (by kernel_rfl)
         obtain rfl:v22 = .agg #[.int .i64 1,.int .i64 cm,.string ⟨#[]⟩,.slice none 0 0]:=hT 22 v22 rfl (by kernel_rfl)
         obtain rfl:v23 = .pointer (some ⟨w.heap.size,9,none⟩):=hT 23 v23 rfl (by kernel_rfl)
         obtain rfl:v24 = .string sn:=hT 24 v24 rfl (by kernel_rfl)
         obtain rfl:v25 = .agg #[.int .i64 2,.int .i64 0,.string sn,.slice none 0 0]:=hT 25 v25 rfl (by kernel_rfl)
         obtain rfl:v26 = .agg #[.int .i64 3,.int .i64 0,.string ⟨#[]⟩,.slice va acc.length vc]:=hT 26 v26 rfl (by kernel_rfl)
         obtain rfl:v27 = .agg #[.int .i64 3,.int .i64 0,.string ⟨#[]⟩,.slice vb acc2.length vd]:=hT 27 v27 rfl (by kernel_rfl)
         have t28:=zC (hT 28 v28 rfl (by kernel_rfl))
         have t29:=zC (hT 29 v29 rfl (by kernel_rfl))
         obtain rfl:v30 = .tuple #[.string P1,.int .i64 P2]:=hT 30 v30 rfl (by kernel_rfl)
         obtain rfl:v31 = .string P1:=hT 31 v31 rfl (by kernel_rfl)
         obtain rfl:v32 = .int .i64 P2:=hT 32 v32 rfl (by kernel_rfl)
         obtain rfl:v33 = .string P1:=hT 33 v33 rfl (by kernel_rfl)
         obtain rfl:v34 = .int .i64 P2:=hT 34 v34 rfl (by kernel_rfl)
         clear hT
         simp only [puts,Act.put,List.setIfInBounds_toArray,List.set_cons_succ,List.set_cons_zero]
         have HB9:=zC (HBs.out.trans (Below.lower hCw9 HBs.out.size))
         have hgg:=HGG.out
         subst hgg
         clear hput hva hra hlen hCw9
         go_wp2_with fail
         go_ret2
         exact⟨rfl,HB9.out⟩
end Go.Proofs.YtlpgbmaoenncjaaGreatDoor

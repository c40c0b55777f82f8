/-
  The walks of the reference's Bytes and Right: a state's bytes, or that it may not be. (Written by wip/mkwq.py.)
-/
import Derived.Test.YtlpgbmaoenncjaaGreatDoorWvC
import Derived.Test.YtlpgbmaoenncjaaGreatDoorRpPut
namespace Go.Proofs.YtlpgbmaoenncjaaGreatDoor
open Go.RowKit
set_option linter.unusedVariables false
def bytesH (h:Hd):ByteArray × Bool:=if shapedH h=true then ((putGot (hdV h)).1,decide ((putGot (hdV h)).2=0)) else (⟨#[]⟩,false)
theorem putGot_bad {x:V}(h:(putGot x).2≠0):(putGot x).1=⟨#[]⟩:=by
 unfold putGot at h ⊢
 split
 ·rfl
 ·split
  ·rfl
  ·rename_i h1 h2; rw [if_neg h1,if_neg h2] at h; exact absurd rfl h
theorem bytesH_put (h:Hd):bytesH h=((putH h).1,decide ((putH h).2=0)):=by
 unfold bytesH putH
 by_cases hs:shapedH h=true
 ·rw [if_pos hs,if_pos hs]
  by_cases hp:(putGot (hdV h)).2≠0
  ·rw [if_pos hp,putGot_bad hp,decide_eq_false hp]; rfl
  ·rw [if_neg hp]
 ·rw [if_neg hs,if_neg hs]; rfl
theorem shapedH_is (tm vo ba bt:Int) (rs:List Rc) (sn:ByteArray) (vs:List Int):shapedH ⟨tm,vo,ba,bt,rs,sn,vs⟩=(decide (0≤tm∧tm≤1073741824∧0≤vo∧vo≤9)&&((decide (headL ba bt tm rs.length)&&rowsW tm bt rs)&&((votersW vs&&decide (vs.length≤7))&&decide (sn.size≤131072)))):=by
 unfold shapedH
 rw [Bool.eq_iff_iff]
 simp only [Bool.and_eq_true,decide_eq_true_eq]
 constructor
 ·rintro⟨⟨h,a8⟩,a9⟩
  obtain⟨⟨a1,a2⟩,⟨a3,a4⟩,a5,a6,a7⟩:=h
  exact⟨⟨a1,a2,a3,a4⟩,⟨a5,a8⟩,⟨a9,a6⟩,a7⟩
 ·rintro⟨⟨a1,a2,a3,a4⟩,⟨a5,a8⟩,⟨a9,a6⟩,a7⟩
  exact⟨⟨by unfold headW; exact⟨⟨a1,a2⟩,⟨a3,a4⟩,a5,a6,a7⟩,a8⟩,a9⟩
set_option maxRecDepth 100000 in
set_option maxHeartbeats 3000000 in
theorem r14bytes_any (h:Hd) (ar:Option Addr) (nr cr:Nat) (av:Option Addr) (nv cv:Nat) (w:World) (H:HdAt w h ar nr cr av nv cv) (htab:Lib.TabIs Tryz.prog w "internal/strconv.uint64pow10" .u64 Lib.pow10Tab) (g:ByteArray × Bool) (hg:Hid (g=bytesH h)) :
 Calls Tryz.prog 107 #[h.val ar nr cr av nv cv] w (fun e w'=>e = .returned (.tuple #[.string g.1,.bool g.2])∧Below w.heap.size w w'):=by
 have HT:=Lib.hid (Lib.tabBelow_of_tabIs htab)
 have HPT:=Lib.hid (fun (hs:shapedH h=true) (W:World) (cs:List Value) (hb:Below w.heap.size w W) (hat:V.At W (fun p=>p<W.heap.size) (hdV h) cs)=>rput_any (fun p=>p<W.heap.size) (hdV h) cs W (fun b hb=>hb) hat (hdV_small hs).1 (hdV_inR hs) (hdV_small hs).2 (HT.out _ hb) (putGot (hdV h)) (Lib.hid rfl))
 have HG1:Hid (shapedH h=false→g=(⟨#[]⟩,false)):=Lib.hid (fun hs=>by rw [hg.out]; unfold bytesH; rw [hs]; rfl)
 have HG2:Hid (shapedH h=true→g=((putGot (hdV h)).1,(putGot (hdV h)).2==0)):=Lib.hid (fun hs=>by rw [hg.out]; unfold bytesH; rw [if_pos hs]; by_cases h0:(putGot (hdV h)).2=0 <;> simp [h0])
 have hfew:=Lib.hid (fun (hs:shapedH h=true)=>(shaped_in hs).1)
 clear htab hg
 obtain⟨P,hP⟩:∃ P,P=putGot (hdV h):=⟨_,rfl⟩
 rw [← hP] at HPT HG2
 clear hP
 obtain⟨P1,P2⟩:=P
 obtain⟨tm,vo,ba,bt,rs,sn,vs⟩:=h
 rw [shapedH_is] at HPT HG1 HG2 hfew
 unfold Hd.val
 dsimp only
 have HN:=Lib.hid (show nr=rs.length from H.rlen)
 have HNV:=Lib.hid (show nv=vs.length from H.vlen)
 have HRO:=Lib.hid (show rcE.Sl w ar nr rs from H.recs)
 have HVO:=Lib.hid (show SlAt w av nv (i64s vs) from H.voters)
 have hnr:=H.nr
 have hnv:=H.nv
 have hsn:sn.size≤140737488355328:=H.snap
 obtain⟨vL,hvL⟩:∃ y,y=(decide (headL ba bt tm rs.length)&&rowsW tm bt rs):=⟨_,rfl⟩
 obtain⟨vV,hvV⟩:∃ y,y=(votersW vs&&decide (vs.length≤7)):=⟨_,rfl⟩
 have HLG:=Lib.hid (fun (W:World) (hb:Below w.heap.size w W)=>rLog_any ba bt tm ar nr cr rs W (HRO.out.keep hb) hnr H.wf vL (Lib.hid hvL))
 have HVT:=Lib.hid (fun (W:World) (hb:Below w.heap.size w W)=>rVoters_any av nv cv vs W (HVO.out.keep hb) hnv vV (Lib.hid hvV))
 rw [← hvL,← hvV] at HPT HG1 HG2 hfew
 clear H hvL hvV
 have HB0:=Lib.hid ((Below.refl _ w).alloc (Nat.le_refl _) (.cells #[.int .i64 tm,.int .i64 vo,.int .i64 ba,.int .i64 bt,.slice ar nr cr,.string sn,.slice av nv cv] 42))
 have HK0:Hid (Blk (w.alloc (.cells #[.int .i64 tm,.int .i64 vo,.int .i64 ba,.int .i64 bt,.slice ar nr cr,.string sn,.slice av nv cv] 42)) w.heap.size 42 [.int .i64 tm,.int .i64 vo,.int .i64 ba,.int .i64 bt,.slice ar nr cr,.string sn,.slice av nv cv]):=Lib.hid (heap_alloc_new w _)
 have x0:=HK0.out.cell (j:=0) rfl
 have x1:=HK0.out.cell (j:=1) rfl
 have x2:=HK0.out.cell (j:=2) rfl
 have x3:=HK0.out.cell (j:=3) rfl
 have x4:=HK0.out.cell (j:=4) rfl
 have x5:=HK0.out.cell (j:=5) rfl
 have x6:=HK0.out.cell (j:=6) rfl
 by_cases hA:0≤tm∧tm≤1073741824∧0≤vo∧vo≤9
 ·rw [decide_eq_true hA,Bool.true_and] at HPT HG1 HG2 hfew
  have q1:=decide_eq_true hA.1
  have q2:=decide_eq_true hA.2.1
  have q3:=decide_eq_true hA.2.2.1
  have q4:=decide_eq_true hA.2.2.2
  clear hA
  go_enter Tryz.func107,Tryz.ntmps107
  go_wp2_with (go_at_call 158; refine (rw14_any _ _ _ _).mono ?_; rintro e w' ⟨rfl,rfl⟩)
  refine (HLG.out _ HB0.out).mono ?_
  rintro e w1 ⟨rfl,hb1⟩
  have HB1:=Lib.hid (below_then HB0.out hb1 HB0.out.size)
  have HK1:=Lib.hid (HK0.out.keep hb1)
  clear x0 x1 x2 x3 x4 x5 x6 HB0 HK0 hb1 q1 q2 q3 q4 HLG
  cases vL with
  | false =>
    obtain rfl:=HG1.out (by rfl)
    go_wp2_with fail
    go_ret2
    exact⟨rfl,HB1.out⟩
  | true =>
    rw [Bool.true_and] at HPT HG1 HG2 hfew
    have x0:=HK1.out.cell (j:=0) rfl
    have x1:=HK1.out.cell (j:=1) rfl
    have x2:=HK1.out.cell (j:=2) rfl
    have x3:=HK1.out.cell (j:=3) rfl
    have x4:=HK1.out.cell (j:=4) rfl
    have x5:=HK1.out.cell (j:=5) rfl
    have x6:=HK1.out.cell (j:=6) rfl
    go_wp2_with fail
    refine (HVT.out _ HB1.out).mono ?_
    rintro e w2 ⟨rfl,hb2⟩
    have HB2:=Lib.hid (below_then HB1.out hb2 HB1.out.size)
    have HK2:=Lib.hid (HK1.out.keep hb2)
    clear x0 x1 x2 x3 x4 x5 x6 HB1 HK1 hb2 HVT
    cases vV with
    | false =>
      obtain rfl:=HG1.out (by rfl)
      go_wp2_with fail
      go_ret2
      exact⟨rfl,HB2.out⟩
    | true =>
      rw [Bool.true_and] at HPT HG1 HG2 hfew
      have x5:=HK2.out.cell (j:=5) rfl
      by_cases hs:sn.size≤131072
      ·rw [decide_eq_true hs] at HPT HG1 HG2 hfew
       have hsi:(sn.size:Int)≤131072:=by omega
       have HGG:=Lib.hid (HG2.out (by trivial))
       have h2:nr≤200:=by have:=(hfew.out (by trivial)).2.2.1.2.2.2.2.2.1; rw [← HN.out] at this; exact this
       have h7:nv≤7:=by have:=(hfew.out (by trivial)).2.2.2.1; rw [← HNV.out] at this; exact this
       clear HG1 HG2 hfew hs
       go_upto_region 4 with fail
       clear x5
       have HB3:=Lib.hid (HB2.out.alloc HB2.out.size (.cells #[.int .i64 3,.int .i64 0,.string ⟨#[]⟩,.slice none 0 0] 70))
       have HK3:=Lib.hid (HK2.out.alloc (.cells #[.int .i64 3,.int .i64 0,.string ⟨#[]⟩,.slice none 0 0] 70))
       have HF3:Hid (Four (w2.alloc (.cells #[.int .i64 3,.int .i64 0,.string ⟨#[]⟩,.slice none 0 0] 70)) w2.heap.size 70 (.int .i64 3) (.int .i64 0) (.string ⟨#[]⟩) (.slice none 0 0)):=Lib.hid (heap_alloc_new w2 _)
       have HS3:Hid ((w2.alloc (.cells #[.int .i64 3,.int .i64 0,.string ⟨#[]⟩,.slice none 0 0] 70)).heap.size=w2.heap.size+1):=Lib.hid (by simp)
       have hwK:w.heap.size<w2.heap.size:=lt_of_block HK2.out
       generalize (w2.alloc (.cells #[.int .i64 3,.int .i64 0,.string ⟨#[]⟩,.slice none 0 0] 70))=w3 at *
       have hs3:=HS3.out
       have HM0:Hid (MakingB w3.heap.size w2.heap.size [] none 0 [] w3):=Lib.hid (MakingB.start _ _ _ (by omega) (Nat.le_refl _) HF3.out)
       have x6:=HK3.out.cell (j:=6) rfl
       go_wp2_with fail
       clear x6
       go_loopg [43] nv (fun gk v wr=>∃ (k:Nat) (acc:List V) (va:Option Addr) (vc:Nat) (cells:List Value),k≤nv∧gk=nv - k∧v = .int .i64 (k:Int)∧Hid (acc=(vs.take k).map numV)∧Hid (MakingB w3.heap.size w2.heap.size acc va vc cells wr)∧Hid (KeptB w3.heap.size w2.heap.size w3 wr))
       case atStart=>exact⟨0,[],none,0,[],Nat.zero_le _,rfl,rfl,Lib.hid rfl,HM0,Lib.hid (KeptB.refl _ _ _)⟩
       case round =>
        clear HM0
        obtain⟨k,acc,va,vc,cells,hk,rfl,rfl,HACC,hM,hKP⟩:=hrel
        have HL:Hid (acc.length=k):=Lib.hid (by rw [HACC.out,List.length_map,List.length_take]; have:=HNV.out; omega)
        have HBr:=Lib.hid (HB3.out.trans (hKP.out.below (B:=w.heap.size) (by omega) (by omega)))
        by_cases hkn:k<nv
        ·have hki:(k:Int)<(nv:Int):=by omega
         have hkl:k<vs.length:=by rw [← HNV.out]; exact hkn
         obtain⟨-,b,off,rfl,hc⟩:=(HVO.out.keep HBr.out).i64 (by omega)
         have c0:=hc k hkl
         have HLI:Hid (acc.length≤7):=Lib.hid (by have:=HL.out; omega)
         have HMT:Hid (acc++[numV vs[k]]=(vs.take (k+1)).map numV):=Lib.hid (by rw [HACC.out,List.take_add_one,List.getElem?_eq_getElem hkl,List.map_append]; rfl)
         clear hc
         generalize vs[k]=xv at *
         go_wp2_with fail
         clear c0
         refine wp_region_lastE (regOf Tryz.f107 7) [some 47,some 48,some 49,some 50,some 51,some 52,some 53] 7 (rvnT w3.heap.size w2.heap.size xv va vc acc cells wr) (fun e w'=>(wr.grownBy w' (Value.slice va acc.length vc).ownBlock)∧(e 5=none→MakingB w3.heap.size w2.heap.size acc va vc cells w')) rvnD (by kernel_rfl) (by kernel_rfl) (by kernel_rfl) (by kernel_rfl) (by kernel_rfl) (by kernel_rfl) (by kernel_rfl) ⟨grown_of_below ((Below.refl _ _).drew) _,fun _=>hM.out.under ((Below.refl _ _).drew)⟩
          (rvn_steps w3.heap.size w2.heap.size xv va vc acc cells wr (hM.out.le) (fun k hk=>(hM.out.own.lt k hk).2) (by have:=HLI.out; omega) (by kernel_rfl) (by kernel_rfl) (by kernel_rfl) (by kernel_rfl)) ?_
         intro oL hoL eL vs w9 hn hallL hCw9 hT KL hKL
         replace hn:vs.length=7:=hn
         obtain⟨v0,vs1,rfl,hn1⟩:=len_cons hn
         obtain⟨v1,vs2,rfl,hn2⟩:=len_cons hn1
         obtain⟨v2,vs3,rfl,hn3⟩:=len_cons hn2
         obtain⟨v3,vs4,rfl,hn4⟩:=len_cons hn3
         obtain⟨v4,vs5,rfl,hn5⟩:=len_cons hn4
         obtain⟨v5,vs6,rfl,hn6⟩:=len_cons hn5
         obtain⟨v6,vs7,rfl,hn7⟩:=len_cons hn6
         obtain rfl:=List.eq_nil_of_length_eq_zero hn7
         clear hn hn1 hn2 hn3 hn4 hn5 hn6 hn7
         obtain rfl:v0 = .pointer (some ⟨w2.heap.size,3,none⟩):=hT 0 v0 rfl (by kernel_rfl)
         obtain rfl:v1 = .slice va acc.length vc:=hT 1 v1 rfl (by kernel_rfl)
         obtain rfl:v2 = .int .i64 xv:=hT 2 v2 rfl (by kernel_rfl)
         obtain rfl:v3 = .agg #[.int .i64 1,.int .i64 xv,.string ⟨#[]⟩,.slice none 0 0]:=hT 3 v3 rfl (by kernel_rfl)
         have t5:=Lib.hid (hT 5 v5 rfl (by kernel_rfl))
         obtain rfl:v6 = .pointer (some ⟨w2.heap.size,3,none⟩):=hT 6 v6 rfl (by kernel_rfl)
         clear hT
         have hoL1:=opIs hoL (p:=.store 68 (.tmp 53) (.tmp 52)) (by kernel_rfl)
         have hgL:=guardIs hoL (p:=none) (by kernel_rfl)
         have hdL:oL.dst=none:=by have:=(show ((regOf Tryz.f107 7)[7]?).map (·.dst)=some (none) by kernel_rfl); rw [hoL] at this; simpa using this
         rw [if_pos (wanted_free hgL)]
         rw [hdL] at hKL
         simp only [puts,Act.put,List.setIfInBounds_toArray,List.set_cons_succ,List.set_cons_zero] at hKL ⊢
         obtain⟨hC9,-⟩:=hCw9
         obtain⟨a3,c3,cells3,e11,hmade⟩:=t5.out
         subst e11
         have e3:=hmade.box.c3
         have k3:=hmade.box.free 3
         unfold Oper.wp
         rw [show (execOp _ oL).run Tryz.prog w9 = .ok .skip (w9.setCell ⟨w2.heap.size,3,none⟩ (.slice a3 (acc.length+[numV xv].length) c3)) by unfold execOp; simp only [hoL1]; simp [go_sem,e3,k3]]
         show KL (Act.put _ oL.dst undef) _
         rw [hdL]
         refine hKL undef _ ?_
         have HMK:=Lib.hid hmade.store
         have HKN:=Lib.hid ((hKP.out.grown hC9 (by have:=hM.out.le; omega) (fun k hk=>.inl (hM.out.own.lt k hk).1)).grown (grown_setCell w9 w2.heap.size 3 (.slice a3 (acc.length+[numV xv].length) c3)) (by have:=hC9.size; have:=hM.out.le; omega) (fun k hk=>.inr (Option.some.inj hk).symm))
         clear e3 k3 hmade t5 hC9 hKL hoL hoL1 hgL hdL hallL
         generalize w9.setCell ⟨w2.heap.size,3,none⟩ (.slice a3 (acc.length+[numV xv].length) c3)=w10 at *
         go_wp2_with fail
         go_roundg (nv - (k+1))
         case rel=>exact⟨k+1,_,a3,c3,cells3,by omega,rfl,by go_num,HMT,HMK,HKN⟩
         case measure=>omega
        ·obtain rfl:k=nv:=by omega
         have HACV:Hid (acc=vs.map numV):=Lib.hid (by rw [HACC.out,HNV.out,List.take_length])
         have HKz:=Lib.hid (show Blk wr w.heap.size _ _ from (hKP.out.block _ (by omega) (by omega)).trans HK3.out)
         have hrz:=HRO.out.keep HBr.out
         have hle:=hM.out.le
         have hvat:=V.At.move (w':=wr) (T:=fun p=>p<wr.heap.size) (fun p hp=>hp.2) (fun _ _=>rfl) _ _ hM.out.at
         rw [HACV.out] at hvat
         have hlen:acc.length=(vs.map numV).length:=by rw [HACV.out]
         rw [← hlen] at hvat
         have hput:=(fun (W:World) (cs:List Value) (hb:Below wr.heap.size wr W) (hat:V.At W (fun p=>p<W.heap.size) (hdV ⟨tm,vo,ba,bt,rs,sn,vs⟩) cs)=>HPT.out (by trivial) W cs (HBr.out.trans (Below.lower hb HBr.out.size)) hat)
         clear HPT
         go_wp2_with fail
         refine wp_region_set (regOf Tryz.f107 9) [some 56,some 57,some 58,some 59,some 60,some 61,some 62,some 63,some 64,some 65,some 66,some 67,some 68,some 69,some 70,some 71,some 72,some 73,some 74,some 75,some 76,some 77,some 78,some 79,some 80,some 55,some 81,some 82,some 7,some 8] (rvmT w.heap.size w2.heap.size tm vo ba bt ar nr cr rs sn av k cv va acc.length vc vs P1 P2 wr) (fun w'=>Below wr.heap.size wr w') rvmD (by kernel_rfl) (by kernel_rfl) (by kernel_rfl) (by kernel_rfl) (by kernel_rfl) ((Below.refl _ _).drew)
          (rvm_steps w.heap.size w2.heap.size tm vo ba bt ar nr cr rs sn av k cv va acc.length vc vs P1 P2 wr (by omega) HKz.out (by omega) hM.out.box hrz h2 hvat hput (by kernel_rfl) (by kernel_rfl) (by kernel_rfl)) ?_
         intro vs w9 hn hCw9 hT
         replace hn:vs.length=30:=hn
         obtain⟨v0,vs1,rfl,hn1⟩:=len_cons hn
         obtain⟨v1,vs2,rfl,hn2⟩:=len_cons hn1
         obtain⟨v2,vs3,rfl,hn3⟩:=len_cons hn2
         obtain⟨v3,vs4,rfl,hn4⟩:=len_cons hn3
         obtain⟨v4,vs5,rfl,hn5⟩:=len_cons hn4
         obtain⟨v5,vs6,rfl,hn6⟩:=len_cons hn5
         obtain⟨v6,vs7,rfl,hn7⟩:=len_cons hn6
         obtain⟨v7,vs8,rfl,hn8⟩:=len_cons hn7
         obtain⟨v8,vs9,rfl,hn9⟩:=len_cons hn8
         obtain⟨v9,vs10,rfl,hn10⟩:=len_cons hn9
         obtain⟨v10,vs11,rfl,hn11⟩:=len_cons hn10
         obtain⟨v11,vs12,rfl,hn12⟩:=len_cons hn11
         obtain⟨v12,vs13,rfl,hn13⟩:=len_cons hn12
         obtain⟨v13,vs14,rfl,hn14⟩:=len_cons hn13
         obtain⟨v14,vs15,rfl,hn15⟩:=len_cons hn14
         obtain⟨v15,vs16,rfl,hn16⟩:=len_cons hn15
         obtain⟨v16,vs17,rfl,hn17⟩:=len_cons hn16
         obtain⟨v17,vs18,rfl,hn18⟩:=len_cons hn17
         obtain⟨v18,vs19,rfl,hn19⟩:=len_cons hn18
         obtain⟨v19,vs20,rfl,hn20⟩:=len_cons hn19
         obtain⟨v20,vs21,rfl,hn21⟩:=len_cons hn20
         obtain⟨v21,vs22,rfl,hn22⟩:=len_cons hn21
         obtain⟨v22,vs23,rfl,hn23⟩:=len_cons hn22
         obtain⟨v23,vs24,rfl,hn24⟩:=len_cons hn23
         obtain⟨v24,vs25,rfl,hn25⟩:=len_cons hn24
         obtain⟨v25,vs26,rfl,hn26⟩:=len_cons hn25
         obtain⟨v26,vs27,rfl,hn27⟩:=len_cons hn26
         obtain⟨v27,vs28,rfl,hn28⟩:=len_cons hn27
         obtain⟨v28,vs29,rfl,hn29⟩:=len_cons hn28
         obtain⟨v29,vs30,rfl,hn30⟩:=len_cons hn29
         obtain rfl:=List.eq_nil_of_length_eq_zero hn30
         clear hn hn1 hn2 hn3 hn4 hn5 hn6 hn7 hn8 hn9 hn10 hn11 hn12 hn13 hn14 hn15 hn16 hn17 hn18 hn19 hn20 hn21 hn22 hn23 hn24 hn25 hn26 hn27 hn28 hn29 hn30
         obtain rfl:v0 = .pointer (some ⟨w.heap.size,0,none⟩):=hT 0 v0 rfl (by kernel_rfl)
         obtain rfl:v1 = .int .i64 tm:=hT 1 v1 rfl (by kernel_rfl)
         obtain rfl:v2 = .agg #[.int .i64 1,.int .i64 tm,.string ⟨#[]⟩,.slice none 0 0]:=hT 2 v2 rfl (by kernel_rfl)
         obtain rfl:v3 = .pointer (some ⟨w.heap.size,1,none⟩):=hT 3 v3 rfl (by kernel_rfl)
         obtain rfl:v4 = .int .i64 vo:=hT 4 v4 rfl (by kernel_rfl)
         obtain rfl:v5 = .agg #[.int .i64 1,.int .i64 vo,.string ⟨#[]⟩,.slice none 0 0]:=hT 5 v5 rfl (by kernel_rfl)
         obtain rfl:v6 = .pointer (some ⟨w.heap.size,2,none⟩):=hT 6 v6 rfl (by kernel_rfl)
         obtain rfl:v7 = .pointer (some ⟨w.heap.size,2,none⟩):=hT 7 v7 rfl (by kernel_rfl)
         obtain rfl:v8 = .int .i64 ba:=hT 8 v8 rfl (by kernel_rfl)
         obtain rfl:v9 = .agg #[.int .i64 1,.int .i64 ba,.string ⟨#[]⟩,.slice none 0 0]:=hT 9 v9 rfl (by kernel_rfl)
         obtain rfl:v10 = .pointer (some ⟨w.heap.size,2,none⟩):=hT 10 v10 rfl (by kernel_rfl)
         obtain rfl:v11 = .pointer (some ⟨w.heap.size,3,none⟩):=hT 11 v11 rfl (by kernel_rfl)
         obtain rfl:v12 = .int .i64 bt:=hT 12 v12 rfl (by kernel_rfl)
         obtain rfl:v13 = .agg #[.int .i64 1,.int .i64 bt,.string ⟨#[]⟩,.slice none 0 0]:=hT 13 v13 rfl (by kernel_rfl)
         obtain rfl:v14 = .pointer (some ⟨w.heap.size,5,none⟩):=hT 14 v14 rfl (by kernel_rfl)
         obtain rfl:v15 = .string sn:=hT 15 v15 rfl (by kernel_rfl)
         obtain rfl:v16 = .agg #[.int .i64 2,.int .i64 0,.string sn,.slice none 0 0]:=hT 16 v16 rfl (by kernel_rfl)
         obtain rfl:v17 = .agg #[.int .i64 3,.int .i64 0,.string ⟨#[]⟩,.slice va acc.length vc]:=hT 17 v17 rfl (by kernel_rfl)
         obtain rfl:v18 = .pointer (some ⟨w.heap.size,2,none⟩):=hT 18 v18 rfl (by kernel_rfl)
         obtain rfl:v19 = .pointer (some ⟨w.heap.size,4,none⟩):=hT 19 v19 rfl (by kernel_rfl)
         obtain rfl:v20 = .slice ar nr cr:=hT 20 v20 rfl (by kernel_rfl)
         have t21:=Lib.hid (hT 21 v21 rfl (by kernel_rfl))
         have t22:=Lib.hid (hT 22 v22 rfl (by kernel_rfl))
         have t23:=Lib.hid (hT 23 v23 rfl (by kernel_rfl))
         obtain rfl:v24 = .tuple #[.string P1,.int .i64 P2]:=hT 24 v24 rfl (by kernel_rfl)
         obtain rfl:v25 = .tuple #[.string P1,.int .i64 P2]:=hT 25 v25 rfl (by kernel_rfl)
         obtain rfl:v26 = .string P1:=hT 26 v26 rfl (by kernel_rfl)
         obtain rfl:v27 = .int .i64 P2:=hT 27 v27 rfl (by kernel_rfl)
         obtain rfl:v28 = .string P1:=hT 28 v28 rfl (by kernel_rfl)
         obtain rfl:v29 = .int .i64 P2:=hT 29 v29 rfl (by kernel_rfl)
         clear hT
         simp only [puts,Act.put,List.setIfInBounds_toArray,List.set_cons_succ,List.set_cons_zero]
         have HB9:=Lib.hid (HBr.out.trans (Below.lower hCw9 HBr.out.size))
         have hgg:=HGG.out
         subst hgg
         clear hput hvat hlen hCw9
         go_wp2_with fail
         go_ret2
         exact⟨rfl,HB9.out⟩
      ·rw [decide_eq_false hs] at HPT HG1 HG2 hfew
       have hsi:(131072:Int)<(sn.size:Int):=by omega
       obtain rfl:=HG1.out (by rfl)
       clear HG1 HG2 HPT hfew hs
       go_wp2_with fail
       go_ret2
       exact⟨rfl,HB2.out⟩
 ·rw [decide_eq_false hA,Bool.false_and] at HPT HG1 HG2 hfew
  obtain rfl:=HG1.out (by rfl)
  have HH:=Lib.hid hA
  clear HG1 HG2 HPT hfew hA
  go_enter Tryz.func107,Tryz.ntmps107
  go_wp2_with (go_at_call 158; refine (rw14_any _ _ _ _).mono ?_; rintro e w' ⟨rfl,rfl⟩)
  all_goals first
   | (go_ret2; exact⟨rfl,HB0.out⟩)
   | (exfalso; have h1:=HH.out; omega)
set_option maxRecDepth 100000 in
set_option maxHeartbeats 1000000 in
theorem rright14_any (h:Hd) (ar:Option Addr) (nr cr:Nat) (av:Option Addr) (nv cv:Nat) (w:World) (H:HdAt w h ar nr cr av nv cv) (htab:Lib.TabIs Tryz.prog w "internal/strconv.uint64pow10" .u64 Lib.pow10Tab) (v:Bool) (hv:Hid (v=rightH h)) :
 Calls Tryz.prog 58 #[h.val ar nr cr av nv cv] w (fun e w'=>e = .returned (.bool v)∧Below w.heap.size w w'):=by
 have HT:=Lib.hid (Lib.tabBelow_of_tabIs htab)
 obtain⟨g,hg⟩:∃ g,g=bytesH h:=⟨_,rfl⟩
 have HPT:=Lib.hid (fun (W:World) (hb:Below w.heap.size w W)=>r14bytes_any h ar nr cr av nv cv W (H.keep hb) (HT.out _ hb) g (Lib.hid hg))
 have HV:Hid (v=g.2):=Lib.hid (by rw [hv.out,hg,bytesH_put]; rfl)
 clear H htab hv hg
 obtain⟨tm,vo,ba,bt,rs,sn,vs⟩:=h
 unfold Hd.val at *
 dsimp only at *
 obtain⟨g1,g2⟩:=g
 dsimp only at *
 have HB0:=Lib.hid ((Below.refl _ w).alloc (Nat.le_refl _) (.cells #[.int .i64 tm,.int .i64 vo,.int .i64 ba,.int .i64 bt,.slice ar nr cr,.string sn,.slice av nv cv] 42))
 have HK0:Hid (Blk (w.alloc (.cells #[.int .i64 tm,.int .i64 vo,.int .i64 ba,.int .i64 bt,.slice ar nr cr,.string sn,.slice av nv cv] 42)) w.heap.size 42 [.int .i64 tm,.int .i64 vo,.int .i64 ba,.int .i64 bt,.slice ar nr cr,.string sn,.slice av nv cv]):=Lib.hid (heap_alloc_new w _)
 have x0:=HK0.out.cell (j:=0) rfl
 have x1:=HK0.out.cell (j:=1) rfl
 have x2:=HK0.out.cell (j:=2) rfl
 have x3:=HK0.out.cell (j:=3) rfl
 have x4:=HK0.out.cell (j:=4) rfl
 have x5:=HK0.out.cell (j:=5) rfl
 have x6:=HK0.out.cell (j:=6) rfl
 go_enter Tryz.func58,Tryz.ntmps58
 go_wp2_with fail
 refine (HPT.out _ HB0.out).mono ?_
 rintro e w1 ⟨rfl,hb1⟩
 have HB1:=Lib.hid (below_then HB0.out hb1 HB0.out.size)
 clear x0 x1 x2 x3 x4 x5 x6 hb1 HPT
 dsimp only
 obtain rfl:=HV.out
 clear HV
 go_wp2_with fail
 go_ret
 exact⟨rfl,HB1.out⟩
end Go.Proofs.YtlpgbmaoenncjaaGreatDoor

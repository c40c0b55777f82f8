/-
  The walk of the law WalPlays: it returns true. (Written by wip/mkwyp.py.)
-/
import Derived.Test.YtlpgbmaoenncjaaGreatDoorWoE
import Derived.Test.YtlpgbmaoenncjaaGreatDoorWyAll
import Derived.Test.YtlpgbmaoenncjaaGreatDoorDkTwo
import Derived.Test.YtlpgbmaoenncjaaGreatDoorWsX
import Derived.Test.YtlpgbmaoenncjaaGreatDoorOpAll
import Derived.Lib.MinMax
namespace Go.Proofs.YtlpgbmaoenncjaaGreatDoor
open Go.RowKit
set_option linter.unusedVariables false
set_option maxRecDepth 100000
structure Hv where
 st:Hd
 ar:Option Addr
 nr:Nat
 cr:Nat
 av:Option Addr
 nv:Nat
 cv:Nat
def hvE:Enc Hv where
 k:=7
 enc o:=[.int .i64 o.st.term,.int .i64 o.st.vote,.int .i64 o.st.base,.int .i64 o.st.bt,.slice o.ar o.nr o.cr,.string o.st.snap,.slice o.av o.nv o.cv]
 len _:=rfl
 one o u hu:=by
  simp at hu
  rcases hu with rfl | rfl | rfl | rfl | rfl | rfl | rfl <;> rfl
 pos:=by decide
theorem tn_at {w:World}{a:Option Addr}{n:Nat}{l:List Tn}(h:tnE.Sl w a n l) (h0:0<n):∃ b off,a=some ⟨b,off,none⟩∧∀ k (hk:k<l.length),
 w.cell? ⟨b,off+k*9,none⟩=some (.int .i64 l[k].st.term)∧w.cell? ⟨b,off+k*9+1,none⟩=some (.int .i64 l[k].st.vote)∧w.cell? ⟨b,off+k*9+2,none⟩=some (.int .i64 l[k].st.base)∧w.cell? ⟨b,off+k*9+3,none⟩=some (.int .i64 l[k].st.bt) ∧
 w.cell? ⟨b,off+k*9+4,none⟩=some (.slice l[k].ar l[k].nr l[k].cr)∧w.cell? ⟨b,off+k*9+5,none⟩=some (.string l[k].st.snap)∧w.cell? ⟨b,off+k*9+6,none⟩=some (.slice l[k].av l[k].nv l[k].cv) ∧
 w.cell? ⟨b,off+k*9+7,none⟩=some (.int .i64 l[k].left)∧w.cell? ⟨b,off+k*9+8,none⟩=some (.int .i64 l[k].keep):=by
 obtain⟨-,b,off,h2,h3⟩:=h.at h0
 exact⟨b,off,h2,fun k hk=>⟨h3 k hk 0 _ rfl,h3 k hk 1 _ rfl,h3 k hk 2 _ rfl,h3 k hk 3 _ rfl,h3 k hk 4 _ rfl,h3 k hk 5 _ rfl,h3 k hk 6 _ rfl,h3 k hk 7 _ rfl,h3 k hk 8 _ rfl⟩⟩
structure PlSt (w W:World) (d:Dk) (a:Option Addr) (n c:Nat) (h:Hd) (ar:Option Addr) (nr cr:Nat) (av:Option Addr) (nv cv:Nat):Prop where
 bel:Below w.heap.size w W
 bd:DkBox W w.heap.size d a n c
 bh:Blk W (w.heap.size+1) 42 [.int .i64 h.term,.int .i64 h.vote,.int .i64 h.base,.int .i64 h.bt,.slice ar nr cr,.string h.snap,.slice av nv cv]
 dk:DkAt W a n c d
 hd:HdAt W h ar nr cr av nv cv
 fa:∀ q,ar=some q→w.heap.size+1<q.block
 fv:∀ q,av=some q→w.heap.size+1<q.block
theorem PlSt.keep {w W W':World}{d:Dk}{a:Option Addr}{n c:Nat}{h:Hd}{ar:Option Addr}{nr cr:Nat}{av:Option Addr}{nv cv:Nat}(s:PlSt w W d a n c h ar nr cr av nv cv) (hb:Below W.heap.size W W'):PlSt w W' d a n c h ar nr cr av nv cv :=
 ⟨below_then s.bel hb s.bel.size,s.bd.keep hb,s.bh.keep hb,s.dk.keep hb,s.hd.keep hb,s.fa,s.fv⟩
theorem pl_start (w:World):PlSt w ((w.alloc (.cells #[.int .i64 1048576,.slice none 0 0,.int .i64 (-1),.bool false] 38)).alloc (.cells #[.int .i64 0,.int .i64 0,.int .i64 0,.int .i64 0,.slice none 0 0,.string ⟨#[]⟩,.slice none 0 0] 42)) freshD none 0 0 Hd.zero none 0 0 none 0 0:=by
 have h:=Blk.both w (.cells #[.int .i64 1048576,.slice none 0 0,.int .i64 (-1),.bool false] 38) (.cells #[.int .i64 0,.int .i64 0,.int .i64 0,.int .i64 0,.slice none 0 0,.string ⟨#[]⟩,.slice none 0 0] 42) 38 42 [.int .i64 1048576,.slice none 0 0,.int .i64 (-1),.bool false] [.int .i64 0,.int .i64 0,.int .i64 0,.int .i64 0,.slice none 0 0,.string ⟨#[]⟩,.slice none 0 0] rfl rfl
 exact⟨((Below.refl w.heap.size w).alloc (Nat.le_refl _) _).alloc (by simp) _,h.1,h.2,fresh_at,hdAt_zero _,fun q e=>(by cases e),fun q e=>(by cases e)⟩
theorem Blk.seven {w:World}{g:Nat}{t:TypeId}{a0 a1 a2 a3 a4 a5 a6:Value}(h:Blk w g t [a0,a1,a2,a3,a4,a5,a6]):w.cell? ⟨g,0,none⟩=some a0∧w.cell? ⟨g,1,none⟩=some a1∧w.cell? ⟨g,2,none⟩=some a2∧w.cell? ⟨g,3,none⟩=some a3∧w.cell? ⟨g,4,none⟩=some a4∧w.cell? ⟨g,5,none⟩=some a5∧w.cell? ⟨g,6,none⟩=some a6:=⟨h.cell rfl,h.cell rfl,h.cell rfl,h.cell rfl,h.cell rfl,h.cell rfl,h.cell rfl⟩
theorem Blk.nine {w:World}{g:Nat}{t:TypeId}{a0 a1 a2 a3 a4 a5 a6 a7 a8:Value}(h:Blk w g t [a0,a1,a2,a3,a4,a5,a6,a7,a8]):w.cell? ⟨g,0,none⟩=some a0∧w.cell? ⟨g,1,none⟩=some a1∧w.cell? ⟨g,2,none⟩=some a2∧w.cell? ⟨g,3,none⟩=some a3∧w.cell? ⟨g,4,none⟩=some a4∧w.cell? ⟨g,5,none⟩=some a5∧w.cell? ⟨g,6,none⟩=some a6∧w.cell? ⟨g,7,none⟩=some a7∧w.cell? ⟨g,8,none⟩=some a8:=⟨h.cell rfl,h.cell rfl,h.cell rfl,h.cell rfl,h.cell rfl,h.cell rfl,h.cell rfl,h.cell rfl,h.cell rfl⟩
theorem Blk.free7 {w:World}{g:Nat}{t:TypeId}{cs:List Value}(h:Blk w g t cs):w.frozen? ⟨g,0,none⟩=false∧w.frozen? ⟨g,1,none⟩=false∧w.frozen? ⟨g,2,none⟩=false∧w.frozen? ⟨g,3,none⟩=false∧w.frozen? ⟨g,4,none⟩=false∧w.frozen? ⟨g,5,none⟩=false∧w.frozen? ⟨g,6,none⟩=false:=⟨h.free 0,h.free 1,h.free 2,h.free 3,h.free 4,h.free 5,h.free 6⟩
theorem infoHard0:(Tryz.prog.info? 42).map (fun i=>(i.zero,i.size,i.bytes))=some (some (.agg #[.int .i64 0,.int .i64 0,.int .i64 0,.int .i64 0,.slice none 0 0,.string ⟨#[]⟩,.slice none 0 0]),7,96):=by kernel_rfl
theorem three_ints (w:World) (x:Int):SlAt (w.alloc (.cells #[.int .i64 x,.int .i64 x,.int .i64 x] 3)) (some ⟨w.heap.size,0,none⟩) 3 (i64s [x,x,x]) :=
 ⟨rfl,.inr ⟨w.heap.size,0,rfl,fun i hi=>by
   have hb:Blk (w.alloc (.cells #[.int .i64 x,.int .i64 x,.int .i64 x] 3)) w.heap.size 3 [.int .i64 x,.int .i64 x,.int .i64 x]:=heap_alloc_new w _
   rw [Nat.zero_add,hb.cellAt]
   exact List.getElem?_eq_getElem hi⟩⟩
theorem hv_one (w:World) (x:Hv) (base:Nat) (hb:base≤w.heap.size):(w.alloc (.cells (hvE.enc x).toArray 42)).ownsRow base 42 7 (.slice (some ⟨w.heap.size,0,none⟩) 1 1) 1 (hvE.cells [x]):=by
 refine⟨by rw [hvE.cells_length]; rfl,.inr ⟨w.heap.size,1,(hvE.enc x).toArray,rfl,hb,heap_alloc_new w _,Nat.le_refl _,by decide,rfl,?_⟩⟩
 rw [Enc.cells_cons,Enc.cells_nil,List.append_nil]
 rfl
theorem hv_at {w:World}{a:Option Addr}{n:Nat}{l:List Hv}(h:hvE.Sl w a n l) (h0:0<n):∃ b off,a=some ⟨b,off,none⟩∧∀ k (hk:k<l.length),
 w.cell? ⟨b,off+k*7,none⟩=some (.int .i64 l[k].st.term)∧w.cell? ⟨b,off+k*7+1,none⟩=some (.int .i64 l[k].st.vote)∧w.cell? ⟨b,off+k*7+2,none⟩=some (.int .i64 l[k].st.base)∧w.cell? ⟨b,off+k*7+3,none⟩=some (.int .i64 l[k].st.bt) ∧
 w.cell? ⟨b,off+k*7+4,none⟩=some (.slice l[k].ar l[k].nr l[k].cr)∧w.cell? ⟨b,off+k*7+5,none⟩=some (.string l[k].st.snap)∧w.cell? ⟨b,off+k*7+6,none⟩=some (.slice l[k].av l[k].nv l[k].cv):=by
 obtain⟨-,b,off,h2,h3⟩:=h.at h0
 exact⟨b,off,h2,fun k hk=>⟨h3 k hk 0 _ rfl,h3 k hk 1 _ rfl,h3 k hk 2 _ rfl,h3 k hk 3 _ rfl,h3 k hk 4 _ rfl,h3 k hk 5 _ rfl,h3 k hk 6 _ rfl⟩⟩
theorem PlSt.next {w W:World}{d d':Dk}{a a':Option Addr}{n c n' c':Nat}{h h':Hd}{ar:Option Addr}{nr cr:Nat}{av:Option Addr}{nv cv:Nat}{ar':Option Addr}{nr' cr':Nat}{av':Option Addr}{nv' cv':Nat}(s:PlSt w W d a n c h ar nr cr av nv cv)
 (hd:DkAt W a' n' c' d') (hh:HdAt W h' ar' nr' cr' av' nv' cv') (fa:∀ q,ar'=some q→w.heap.size+1<q.block) (fv:∀ q,av'=some q→w.heap.size+1<q.block) :
 PlSt w (((((((((((W.setCell ⟨w.heap.size,0,none⟩ (.int .i64 d'.room)).setCell ⟨w.heap.size,1,none⟩ (.slice a' n' c')).setCell ⟨w.heap.size,2,none⟩ (.int .i64 d'.left)).setCell ⟨w.heap.size,3,none⟩ (.bool d'.down)).setCell ⟨w.heap.size+1,0,none⟩ (.int .i64 h'.term)).setCell ⟨w.heap.size+1,1,none⟩ (.int .i64 h'.vote)).setCell ⟨w.heap.size+1,2,none⟩ (.int .i64 h'.base)).setCell ⟨w.heap.size+1,3,none⟩ (.int .i64 h'.bt)).setCell ⟨w.heap.size+1,4,none⟩ (.slice ar' nr' cr')).setCell ⟨w.heap.size+1,5,none⟩ (.string h'.snap)).setCell ⟨w.heap.size+1,6,none⟩ (.slice av' nv' cv')).drew d' a' n' c' h' ar' nr' cr' av' nv' cv':=by
 have g1:=grown_four W w.heap.size (.int .i64 d'.room) (.slice a' n' c') (.int .i64 d'.left) (.bool d'.down)
 have b1:=DkBox.setF s.bd d' a' n' c'
 have e1:=dk_apart hd (show Blk W w.heap.size 38 [.int .i64 d.room,.slice a n c,.int .i64 d.left,.bool d.down] from s.bd) apart_four g1
 have h1:=hdAt_kept hh g1 (fun q e he=>by have:=fa q e; have:=Option.some.inj he; omega) (fun q e he=>by have:=fv q e; have:=Option.some.inj he; omega)
 have k1:=s.bh.kept g1 (fun e=>by have:=Option.some.inj e; omega)
 have l1:=s.bel.grown g1 s.bel.size (fun q e=>Nat.le_of_eq (Option.some.inj e))
 generalize ((((W.setCell ⟨w.heap.size,0,none⟩ (.int .i64 d'.room)).setCell ⟨w.heap.size,1,none⟩ (.slice a' n' c')).setCell ⟨w.heap.size,2,none⟩ (.int .i64 d'.left)).setCell ⟨w.heap.size,3,none⟩ (.bool d'.down))=W1 at *
 have g2:=grown_seven W1 (w.heap.size+1) (.int .i64 h'.term) (.int .i64 h'.vote) (.int .i64 h'.base) (.int .i64 h'.bt) (.slice ar' nr' cr') (.string h'.snap) (.slice av' nv' cv')
 have b2:=blk_seven k1 (.int .i64 h'.term) (.int .i64 h'.vote) (.int .i64 h'.base) (.int .i64 h'.bt) (.slice ar' nr' cr') (.string h'.snap) (.slice av' nv' cv')
 have e2:=dk_apart e1 k1 apart_seven g2
 have h2:=hdAt_kept h1 g2 (fun q e he=>by have:=fa q e; have:=Option.some.inj he; omega) (fun q e he=>by have:=fv q e; have:=Option.some.inj he; omega)
 have c2:=Four.kept b1 g2 (fun e=>by have:=Option.some.inj e; omega)
 have l2:=l1.grown g2 l1.size (fun q e=>by have:=Option.some.inj e; omega)
 generalize (((((((W1.setCell ⟨w.heap.size+1,0,none⟩ (.int .i64 h'.term)).setCell ⟨w.heap.size+1,1,none⟩ (.int .i64 h'.vote)).setCell ⟨w.heap.size+1,2,none⟩ (.int .i64 h'.base)).setCell ⟨w.heap.size+1,3,none⟩ (.int .i64 h'.bt)).setCell ⟨w.heap.size+1,4,none⟩ (.slice ar' nr' cr')).setCell ⟨w.heap.size+1,5,none⟩ (.string h'.snap)).setCell ⟨w.heap.size+1,6,none⟩ (.slice av' nv' cv'))=W2 at *
 exact⟨l2.drew,c2,Blk.drewN b2 1,e2.keep (Below.refl _ _).drew,h2.keep (Below.refl _ _).drew,fa,fv⟩
set_option maxHeartbeats 16000000 in
theorem walPlays_walk (ta:Option Addr) (tn tc:Nat) (ts:List Tn) (w:World) (hts:tnE.Sl w ta tn ts) (hok:∀ o∈ts,o.ok w) (hn:tn≤100000000000000) (htab:Lib.TabIs Tryz.prog w "internal/strconv.uint64pow10" .u64 Lib.pow10Tab) :
 Calls Tryz.prog 7 #[.slice ta tn tc] w (fun e w'=>e = .returned (.bool true)∧Below w.heap.size w w'):=by
 have HTB:=Lib.hid (Lib.tabBelow_of_tabIs htab)
 have HTS:=Lib.hid hts
 have HTL:=Lib.hid (show tn=ts.length from hts.1)
 have HOK:=Lib.hid hok
 have HST:=Lib.hid (pl_start w)
 have HAL:Hid (∀ W,Below w.heap.size w W→Calls Tryz.prog 21 #[] W fun e w'=>e = .returned (.bool true)∧Below W.heap.size W w'):=Lib.hid fun W hb=>alive14_any W (HTB.out _ hb)
 clear hts hok htab
 go_enter Tryz.func7,Tryz.ntmps7
 go_upto_region 3 with fail
 generalize ((w.alloc (.cells #[.int .i64 1048576,.slice none 0 0,.int .i64 (-1),.bool false] 38)).alloc (.cells #[.int .i64 0,.int .i64 0,.int .i64 0,.int .i64 0,.slice none 0 0,.string ⟨#[]⟩,.slice none 0 0] 42))=w0 at *
 go_wp2_with fail
 go_loopg [17] tn (fun gk i wr=>∃ (k j:Nat) (d:Dk) (a:Option Addr) (n c:Nat) (h:Hd) (ar:Option Addr) (nr cr:Nat) (av:Option Addr) (nv cv:Nat),k≤tn∧gk=tn - k∧i = .int .i64 (k:Int)∧Hid (j≤k∧j≤12∧Inv j d h)∧Hid (PlSt w wr d a n c h ar nr cr av nv cv))
 case atStart=>exact⟨0,0,freshD,none,0,0,Hd.zero,none,0,0,none,0,0,Nat.zero_le _,rfl,rfl,Lib.hid ⟨Nat.le_refl _,Nat.zero_le _,inv_start rightH_zero⟩,HST⟩
 case round =>
  obtain⟨k,j,d,a,n,c,h,ar,nr,cr,av,nv,cv,hk,rfl,rfl,HI,HS⟩:=hrel
  by_cases hkn:k<tn
  ·have hki:(k:Int)<(tn:Int):=by omega
   have hkl:k<ts.length:=by rw [← HTL.out]; exact hkn
   obtain⟨b,off,rfl,hc⟩:=tn_at (HTS.out.keep HS.out.bel) (by omega)
   have HOO:=Lib.hid (HOK.out _ (List.getElem_mem hkl))
   obtain⟨c0,c1,c2,c3,c4,c5,c6,c7,c8⟩:=hc k hkl
   clear hc
   generalize ts[k]=o at *
   obtain⟨⟨tm,vt,bs,bt,rs,sn,vs⟩,ar1,nr1,cr1,av1,nv1,cv1,lf,kp⟩:=o
   obtain⟨dr,df,dl,dd⟩:=d
   obtain⟨hm,ho,hb,ht,hr,hs,hv⟩:=h
   dsimp only at c0 c1 c2 c3 c4 c5 c6 c7 c8
   have HHA:Hid (HdAt w ⟨tm,vt,bs,bt,rs,sn,vs⟩ ar1 nr1 cr1 av1 nv1 cv1):=Lib.hid HOO.out.1
   have HLB:Hid (in63 lf):=Lib.hid HOO.out.2.1
   clear HOO
   have HB6:Hid (Below wr.heap.size wr (wr.alloc (.cells #[.int .i64 tm,.int .i64 vt,.int .i64 bs,.int .i64 bt,.slice ar1 nr1 cr1,.string sn,.slice av1 nv1 cv1,.int .i64 lf,.int .i64 kp] 61))):=Lib.hid ((Below.refl _ wr).alloc (Nat.le_refl _) _)
   have HT6:Hid (Blk (wr.alloc (.cells #[.int .i64 tm,.int .i64 vt,.int .i64 bs,.int .i64 bt,.slice ar1 nr1 cr1,.string sn,.slice av1 nv1 cv1,.int .i64 lf,.int .i64 kp] 61)) wr.heap.size 61 [.int .i64 tm,.int .i64 vt,.int .i64 bs,.int .i64 bt,.slice ar1 nr1 cr1,.string sn,.slice av1 nv1 cv1,.int .i64 lf,.int .i64 kp]):=Lib.hid (heap_alloc_new wr _)
   go_upto_region 6 with fail
   clear c0 c1 c2 c3 c4 c5 c6 c7 c8
   generalize (wr.alloc (.cells #[.int .i64 tm,.int .i64 vt,.int .i64 bs,.int .i64 bt,.slice ar1 nr1 cr1,.string sn,.slice av1 nv1 cv1,.int .i64 lf,.int .i64 kp] 61))=w6 at *
   have HSZ:=Lib.hid HS.out.bd.lt
   obtain⟨x0,x1,x2,x3,x4,x5,x6,x7,x8⟩:=HT6.out.nine
   by_cases hk12:k<12
   ·have hk12i:¬ ((12:Int)≤(k:Int)):=by omega
    have HSM:=Lib.hid (small14_sum ⟨tm,vt,bs,bt,rs,sn,vs⟩ ar1 nr1 cr1 av1 nv1 cv1 w6 ((HHA.out.keep HS.out.bel).keep HB6.out))
    unfold Hd.val at HSM
    dsimp only at HSM
    go_wp2_with fail
    refine HSM.out.mono ?_
    rintro e w7 ⟨⟨bb,rfl,hsm⟩,hb7⟩
    dsimp only
    have HSA:=Lib.hid hsm
    have HB7:=Lib.hid (below_then HB6.out hb7 HB6.out.size)
    have HT7:=Lib.hid (HT6.out.keep hb7)
    clear hsm hb7 x0 x1 x2 x3 x4 x5 x6 x7 x8 HSM
    clear HB6 HT6
    cases bb with
    | false =>
      go_wp2_with fail
      go_roundg (tn - (k+1))
      case rel=>exact⟨k+1,j,⟨dr,df,dl,dd⟩,a,n,c,⟨hm,ho,hb,ht,hr,hs,hv⟩,ar,nr,cr,av,nv,cv,by omega,rfl,by go_num,Lib.hid ⟨by have:=HI.out.1; omega,HI.out.2⟩,Lib.hid (HS.out.keep HB7.out)⟩
      case measure=>omega
    | true =>
      obtain⟨r1,hr1⟩:∃ r,r=rightH (⟨tm,vt,bs,bt,rs,sn,vs⟩:Hd):=⟨_,rfl⟩
      have HSM:=Lib.hid (wright_any ⟨tm,vt,bs,bt,rs,sn,vs⟩ ar1 nr1 cr1 av1 nv1 cv1 w7 ((HHA.out.keep HS.out.bel).keep HB7.out) (HTB.out _ (below_then HS.out.bel HB7.out HS.out.bel.size)) r1 (Lib.hid hr1))
      unfold Hd.val at HSM
      dsimp only at HSM
      have HR1:=Lib.hid hr1
      clear hr1
      obtain⟨x0,x1,x2,x3,x4,x5,x6,x7,x8⟩:=HT7.out.nine
      go_wp2_with fail
      refine HSM.out.mono ?_
      rintro e w8 ⟨rfl,hb8⟩
      dsimp only
      have HB8:=Lib.hid (below_then HB7.out hb8 HB7.out.size)
      have HT8:=Lib.hid (HT7.out.keep hb8)
      clear hb8 x0 x1 x2 x3 x4 x5 x6 x7 x8 HSM
      clear HB7 HT7
      cases r1 with
      | false =>
        go_wp2_with fail
        go_roundg (tn - (k+1))
        case rel=>exact⟨k+1,j,⟨dr,df,dl,dd⟩,a,n,c,⟨hm,ho,hb,ht,hr,hs,hv⟩,ar,nr,cr,av,nv,cv,by omega,rfl,by go_num,Lib.hid ⟨by have:=HI.out.1; omega,HI.out.2⟩,Lib.hid (HS.out.keep HB8.out)⟩
        case measure=>omega
      | true =>
        have hjk12:j<12:=by have:=HI.out.1; omega
        have HTI:=Lib.hid (turn_inv hjk12 HI.out.2.2 HR1.out.symm (HSA.out (by trivial)) (min (max lf (-1)) 5) (by omega) (by omega))
        obtain⟨⟨Cr,Cf,Cl,Cd⟩,⟨⟨Xr,Xf,Xl,Xd⟩,xe⟩,hcu,hsv,hxe,hup,hcrash,hopen⟩:=HTI.out
        dsimp only at hxe hup hcrash hopen
        obtain⟨l5,hl5⟩:∃ l,l=min (max lf (-1)) 5:=⟨_,rfl⟩
        rw [← hl5] at hcu hup hopen
        have HL5:=Lib.hid hl5
        have HCU:=Lib.hid hcu
        have HSV:=Lib.hid hsv
        have HXE:=Lib.hid hxe
        have HUP:=Lib.hid hup
        have HCR:=Lib.hid hcrash
        have HOP:=Lib.hid hopen
        clear hl5 hcu hsv hxe hup hcrash hopen HTI hjk12 HR1 HSA
        have HW8:=Lib.hid (HS.out.keep HB8.out)
        have HCC:=Lib.hid (cut_any a n c ⟨dr,df,dl,dd⟩ l5 w8 HW8.out.dk)
        rw [HCU.out] at HCC
        unfold Dk.val at HCC
        dsimp only at HCC
        have q0:=HW8.out.bd.c0; have q1:=HW8.out.bd.c1; have q2:=HW8.out.bd.c2; have q3:=HW8.out.bd.c3
        obtain⟨x0,x1,x2,x3,x4,x5,x6,x7,x8⟩:=HT8.out.nine
        dsimp only at q0 q1 q2 q3
        go_wp2_with fail
        rw [← HL5.out]
        refine HCC.out.mono ?_
        rintro e w9 ⟨a9,n9,c9,rfl,hd9,hb9⟩
        unfold Dk.val
        dsimp only at hd9 ⊢
        have HB9:=Lib.hid (below_then HB8.out hb9 HB8.out.size)
        have HT9:=Lib.hid (HT8.out.keep hb9)
        clear hb9 x0 x1 x2 x3 x4 x5 x6 x7 x8 q0 q1 q2 q3 HCC HCU HW8
        clear HB8 HT8
        have hb10:Below w9.heap.size w9 (w9.alloc (.cells #[.int .i64 Cr,.slice a9 n9 c9,.int .i64 Cl,.bool Cd] 38)):=(Below.refl _ w9).alloc (Nat.le_refl _) _
        have HB10:=Lib.hid (below_then HB9.out hb10 HB9.out.size)
        have HT10:=Lib.hid (HT9.out.keep hb10)
        have HDC10:=Lib.hid (hd9.keep hb10)
        have HC10:Hid (DkBox (w9.alloc (.cells #[.int .i64 Cr,.slice a9 n9 c9,.int .i64 Cl,.bool Cd] 38)) w9.heap.size ⟨Cr,Cf,Cl,Cd⟩ a9 n9 c9):=Lib.hid (DkBox.new w9 ⟨Cr,Cf,Cl,Cd⟩ a9 n9 c9)
        have HPS:Hid (wr.heap.size<w9.heap.size):=Lib.hid (lt_of_block HT9.out)
        clear HB9 HT9
        clear hb10 hd9
        go_upto_region 8 with fail
        generalize (w9.alloc (.cells #[.int .i64 Cr,.slice a9 n9 c9,.int .i64 Cl,.bool Cd] 38))=w10 at *
        generalize w9.heap.size=s10 at *
        have HW10:=Lib.hid (HS.out.keep HB10.out)
        have HCC:=Lib.hid (wsave_all a9 n9 c9 ⟨Cr,Cf,Cl,Cd⟩ ⟨hm,ho,hb,ht,hr,hs,hv⟩ ⟨tm,vt,bs,bt,rs,sn,vs⟩ ar nr cr av nv cv ar1 nr1 cr1 av1 nv1 cv1 w10 HDC10.out HW10.out.hd ((HHA.out.keep HS.out.bel).keep HB10.out) (HTB.out _ HW10.out.bel))
        rw [HSV.out] at HCC
        unfold Dk.val Hd.val at HCC
        dsimp only at HCC
        have q0:=HC10.out.c0; have q1:=HC10.out.c1; have q2:=HC10.out.c2; have q3:=HC10.out.c3
        obtain⟨x0,x1,x2,x3,x4,x5,x6,x7,x8⟩:=HT10.out.nine
        obtain⟨y0,y1,y2,y3,y4,y5,y6⟩:=HW10.out.bh.seven
        dsimp only at q0 q1 q2 q3 y0 y1 y2 y3 y4 y5 y6
        go_wp2_with fail
        refine HCC.out.mono ?_
        rintro e w11 ⟨a11,n11,c11,rfl,hd11,hb11⟩
        unfold Dk.val
        dsimp only at hd11 ⊢
        have HB11:=Lib.hid (below_then HB10.out hb11 HB10.out.size)
        have HT11:=Lib.hid (HT10.out.keep hb11)
        have HC11:=Lib.hid (HC10.out.keep hb11)
        have HDX11:=Lib.hid hd11
        clear hb11 hd11 x0 x1 x2 x3 x4 x5 x6 x7 x8 y0 y1 y2 y3 y4 y5 y6 q0 q1 q2 q3 HCC HSV HW10 HDC10
        clear HB10 HT10 HC10
        have q0:=HC11.out.c0; have q1:=HC11.out.c1; have q2:=HC11.out.c2; have q3:=HC11.out.c3
        have f0:=HC11.out.free 0; have f1:=HC11.out.free 1; have f2:=HC11.out.free 2; have f3:=HC11.out.free 3
        dsimp only at q0 q1 q2 q3
        go_upto_region 11 with fail
        clear q0 q1 q2 q3 f0 f1 f2 f3
        have hg11:=grown_four w11 s10 (.int .i64 Xr) (.slice a11 n11 c11) (.int .i64 Xl) (.bool Xd)
        have HP11:=HPS.out
        have HB12:Hid (Below wr.heap.size wr ((((w11.setCell ⟨s10,0,none⟩ (.int .i64 Xr)).setCell ⟨s10,1,none⟩ (.slice a11 n11 c11)).setCell ⟨s10,2,none⟩ (.int .i64 Xl)).setCell ⟨s10,3,none⟩ (.bool Xd))):=Lib.hid (HB11.out.grown hg11 HB11.out.size (fun q e=>by have:=Option.some.inj e; omega))
        have HT12:=Lib.hid (HT11.out.kept hg11 (fun e=>by have:=Option.some.inj e; omega))
        have HC12:Hid (DkBox ((((w11.setCell ⟨s10,0,none⟩ (.int .i64 Xr)).setCell ⟨s10,1,none⟩ (.slice a11 n11 c11)).setCell ⟨s10,2,none⟩ (.int .i64 Xl)).setCell ⟨s10,3,none⟩ (.bool Xd)) s10 ⟨Xr,Xf,Xl,Xd⟩ a11 n11 c11):=Lib.hid (DkBox.setF HC11.out ⟨Xr,Xf,Xl,Xd⟩ a11 n11 c11)
        have HDX12:Hid (DkAt ((((w11.setCell ⟨s10,0,none⟩ (.int .i64 Xr)).setCell ⟨s10,1,none⟩ (.slice a11 n11 c11)).setCell ⟨s10,2,none⟩ (.int .i64 Xl)).setCell ⟨s10,3,none⟩ (.bool Xd)) a11 n11 c11 ⟨Xr,Xf,Xl,Xd⟩):=Lib.hid (dk_apart HDX11.out (show Blk w11 s10 38 [.int .i64 Cr,.slice a9 n9 c9,.int .i64 Cl,.bool Cd] from HC11.out) apart_four hg11)
        clear hg11 HP11 HDX11
        clear HB11 HT11 HC11
        generalize ((((w11.setCell ⟨s10,0,none⟩ (.int .i64 Xr)).setCell ⟨s10,1,none⟩ (.slice a11 n11 c11)).setCell ⟨s10,2,none⟩ (.int .i64 Xl)).setCell ⟨s10,3,none⟩ (.bool Xd))=w12 at *
        obtain⟨x0,x1,x2,x3,x4,x5,x6,x7,x8⟩:=HT12.out.nine
        go_upto_region 12 with fail
        have HPZ:Hid (s10<w12.heap.size∧wr.heap.size<w12.heap.size):=Lib.hid ⟨lt_of_block HC12.out,lt_of_block HT12.out⟩
        have HO13:Hid ((w12.alloc (.cells #[.int .i64 tm,.int .i64 vt,.int .i64 bs,.int .i64 bt,.slice ar1 nr1 cr1,.string sn,.slice av1 nv1 cv1] 42)).ownsRow w12.heap.size 42 7 (.slice (some ⟨w12.heap.size,0,none⟩) 1 1) 1 (hvE.cells [(⟨⟨tm,vt,bs,bt,rs,sn,vs⟩,ar1,nr1,cr1,av1,nv1,cv1⟩:Hv)])):=Lib.hid (hv_one w12 (⟨⟨tm,vt,bs,bt,rs,sn,vs⟩,ar1,nr1,cr1,av1,nv1,cv1⟩:Hv) w12.heap.size (Nat.le_refl _))
        have HMB:Hid (Blk (w12.alloc (.cells #[.int .i64 tm,.int .i64 vt,.int .i64 bs,.int .i64 bt,.slice ar1 nr1 cr1,.string sn,.slice av1 nv1 cv1] 42)) w12.heap.size 42 [.int .i64 tm,.int .i64 vt,.int .i64 bs,.int .i64 bt,.slice ar1 nr1 cr1,.string sn,.slice av1 nv1 cv1]):=Lib.hid (heap_alloc_new w12 _)
        have hb13:Below w12.heap.size w12 (w12.alloc (.cells #[.int .i64 tm,.int .i64 vt,.int .i64 bs,.int .i64 bt,.slice ar1 nr1 cr1,.string sn,.slice av1 nv1 cv1] 42)):=(Below.refl _ w12).alloc (Nat.le_refl _) _
        have HB13:=Lib.hid (below_then HB12.out hb13 HB12.out.size)
        have HT13:=Lib.hid (HT12.out.keep hb13)
        have HC13:=Lib.hid (HC12.out.keep hb13)
        have HDX13:=Lib.hid (HDX12.out.keep hb13)
        clear HB12 HT12 HC12
        clear hb13 HDX12 x0 x1 x2 x3 x4 x5 x6 x7 x8
        generalize (w12.alloc (.cells #[.int .i64 tm,.int .i64 vt,.int .i64 bs,.int .i64 bt,.slice ar1 nr1 cr1,.string sn,.slice av1 nv1 cv1] 42))=w13 at *
        generalize w12.heap.size=s12 at *
        rcases HXE.out with rfl | rfl
        ·clear HXE HMB
         obtain⟨am,cm,hme,-,hsm,hfm,-,-⟩:=Enc.own_sl HO13.out
         obtain⟨rfl,rfl⟩:am=some ⟨s12,0,none⟩∧cm=1:=by cases hme; exact⟨rfl,rfl⟩
         have HM13:Hid (hvE.Sl w13 (some ⟨s12,0,none⟩) 1 [(⟨⟨tm,vt,bs,bt,rs,sn,vs⟩,ar1,nr1,cr1,av1,nv1,cv1⟩:Hv)]):=Lib.hid hsm
         have HFM:Hid (∀ q,(some ⟨s12,0,none⟩:Option Addr).map Addr.block=some q→s10<q):=Lib.hid (fun q e=>by have h1:s12=q:=(by simpa using e); have:=HPZ.out; omega)
         clear hme hsm hfm HO13
         by_cases hlf:0≤lf
         ·have hlfI:(decide (0≤lf))=true:=decide_eq_true hlf
          obtain⟨x0,x1,x2,x3,x4,x5,x6,x7,x8⟩:=HT13.out.nine
          have q0:=HC13.out.c0; have q1:=HC13.out.c1; have q2:=HC13.out.c2; have q3:=HC13.out.c3
          dsimp only at q0 q1 q2 q3
          have hbA:Below w13.heap.size w13 (w13.alloc (.cells #[.int .i64 kp,.int .i64 kp,.int .i64 kp] 3)):=(Below.refl _ w13).alloc (Nat.le_refl _) _
          have HB14:=Lib.hid (below_then HB13.out hbA HB13.out.size)
          have HT14:=Lib.hid (HT13.out.keep hbA)
          have HC14:=Lib.hid (HC13.out.keep hbA)
          have HM14:=Lib.hid (HM13.out.keep hbA)
          have HCC:=Lib.hid (crash_any a11 n11 c11 ⟨Xr,Xf,Xl,Xd⟩ (some ⟨w13.heap.size,0,none⟩) 3 3 [kp,kp,kp] (w13.alloc (.cells #[.int .i64 kp,.int .i64 kp,.int .i64 kp] 3)) (HDX13.out.keep hbA) (three_ints w13 kp) (by decide))
          obtain⟨hright,hlz,⟨Er,Ef,El,Ed⟩,z,hoo,hzz,hinv⟩:=HCR.out [kp,kp,kp]
          rw [show crashD ⟨Xr,Xf,Xl,Xd⟩ [kp,kp,kp]=(⟨Xr,crashF [kp,kp,kp] 0 Xf,-1,false⟩,0) from by unfold crashD; rw [hright,if_neg (by decide)]; rfl] at HCC
          unfold crashed at hlz hoo
          dsimp only at hlz hoo
          obtain⟨Kf,hKf⟩:∃ K,K=crashF [kp,kp,kp] 0 Xf:=⟨_,rfl⟩
          rw [← hKf] at HCC hlz hoo
          have HLZ:=Lib.hid hlz
          have HOO:=Lib.hid hoo
          have HZZ:=Lib.hid hzz
          have HIV:=Lib.hid hinv
          clear hright hlz hoo hzz hinv hKf hbA HCR HOP HDX13
          unfold Dk.val at HCC
          dsimp only at HCC
          go_wp2_with fail
          refine HCC.out.mono ?_
          rintro e w15 ⟨a13,n13,c13,rfl,hd13,hb13⟩
          unfold Dk.val
          dsimp only at hd13 ⊢
          have HB15:=Lib.hid (below_then HB14.out hb13 HB14.out.size)
          have HT15:=Lib.hid (HT14.out.keep hb13)
          have HC15:=Lib.hid (HC14.out.keep hb13)
          have HM15:=Lib.hid (HM14.out.keep hb13)
          have HDX15:=Lib.hid hd13
          clear hb13 hd13 x0 x1 x2 x3 x4 x5 x6 x7 x8 q0 q1 q2 q3 HCC
          clear HB14 HT14 HC14 HM14
          clear HB13 HT13 HC13 HM13
          have q0:=HC15.out.c0; have q1:=HC15.out.c1; have q2:=HC15.out.c2; have q3:=HC15.out.c3
          have f0:=HC15.out.free 0; have f1:=HC15.out.free 1; have f2:=HC15.out.free 2; have f3:=HC15.out.free 3
          dsimp only at q0 q1 q2 q3
          go_upto_region 18 with fail
          clear q0 q1 q2 q3 f0 f1 f2 f3
          have hg15:=grown_four w15 s10 (.int .i64 Xr) (.slice a13 n13 c13) (.int .i64 (-1)) (.bool false)
          have HP15:=HPS.out
          have HB16:Hid (Below wr.heap.size wr ((((w15.setCell ⟨s10,0,none⟩ (.int .i64 Xr)).setCell ⟨s10,1,none⟩ (.slice a13 n13 c13)).setCell ⟨s10,2,none⟩ (.int .i64 (-1))).setCell ⟨s10,3,none⟩ (.bool false))):=Lib.hid (HB15.out.grown hg15 HB15.out.size (fun q e=>by have:=Option.some.inj e; omega))
          have HT16:=Lib.hid (HT15.out.kept hg15 (fun e=>by have:=Option.some.inj e; omega))
          have HC16:Hid (DkBox ((((w15.setCell ⟨s10,0,none⟩ (.int .i64 Xr)).setCell ⟨s10,1,none⟩ (.slice a13 n13 c13)).setCell ⟨s10,2,none⟩ (.int .i64 (-1))).setCell ⟨s10,3,none⟩ (.bool false)) s10 ⟨Xr,Kf,-1,false⟩ a13 n13 c13):=Lib.hid (DkBox.setF HC15.out ⟨Xr,Kf,-1,false⟩ a13 n13 c13)
          have HDX16:Hid (DkAt ((((w15.setCell ⟨s10,0,none⟩ (.int .i64 Xr)).setCell ⟨s10,1,none⟩ (.slice a13 n13 c13)).setCell ⟨s10,2,none⟩ (.int .i64 (-1))).setCell ⟨s10,3,none⟩ (.bool false)) a13 n13 c13 ⟨Xr,Kf,-1,false⟩):=Lib.hid (dk_apart HDX15.out (show Blk w15 s10 38 [.int .i64 Xr,.slice a11 n11 c11,.int .i64 Xl,.bool Xd] from HC15.out) apart_four hg15)
          have HM16:=Lib.hid (HM15.out.kept hg15 (fun q e he=>by have h1:=HFM.out q e; have:=Option.some.inj he; omega))
          clear HM15 hg15 HP15 HDX15
          clear HB15 HT15 HC15
          generalize ((((w15.setCell ⟨s10,0,none⟩ (.int .i64 Xr)).setCell ⟨s10,1,none⟩ (.slice a13 n13 c13)).setCell ⟨s10,2,none⟩ (.int .i64 (-1))).setCell ⟨s10,3,none⟩ (.bool false))=w16 at *
          obtain rfl:z=⟨tm,vt,bs,bt,rs,sn,vs⟩:=by
           rcases HZZ.out with h1 | ⟨h1,-⟩
           ·exact h1
           ·exact absurd rfl h1
          clear HZZ
          have q0:=HC16.out.c0; have q1:=HC16.out.c1; have q2:=HC16.out.c2; have q3:=HC16.out.c3
          dsimp only at q0 q1 q2 q3
          have HCC:=Lib.hid (wopen_any a13 n13 c13 ⟨Xr,Kf,-1,false⟩ w16 HDX16.out HLZ.out (HTB.out _ (below_then HS.out.bel HB16.out HS.out.bel.size)) ⟨⟨Er,Ef,El,Ed⟩,⟨tm,vt,bs,bt,rs,sn,vs⟩,0⟩ (Lib.hid HOO.out.symm))
          unfold OpenP Dk.val Hd.val at HCC
          dsimp only at HCC
          go_upto_region 20 with fail
          go_wp2_with fail
          refine HCC.out.mono ?_
          rintro e w17 ⟨a16,n16,c16,ar16,nr16,cr16,av16,nv16,cv16,rfl,hd16,hh16,hb16,hfa,hfv⟩
          dsimp only
          have hsz:=HS.out.bh.lt
          have hsb:=HB16.out.size
          have HFA:Hid ((∀ q,ar16=some q→w.heap.size+1<q.block)∧(∀ q,av16=some q→w.heap.size+1<q.block)):=Lib.hid ⟨fun q e=>by have:=hfa q e; omega,fun q e=>by have:=hfv q e; omega⟩
          have HB17:=Lib.hid (below_then HB16.out hb16 HB16.out.size)
          have HM17:=Lib.hid (HM16.out.keep hb16)
          clear q0 q1 q2 q3 HCC HLZ HOO HDX16 hfa hfv HC16 HT16
          clear HB16 HM16
          have hbB:Below w17.heap.size w17 ((w17.alloc (.cells #[.int .i64 Er,.slice a16 n16 c16,.int .i64 El,.bool Ed] 38)).alloc (.cells #[.int .i64 tm,.int .i64 vt,.int .i64 bs,.int .i64 bt,.slice ar16 nr16 cr16,.string sn,.slice av16 nv16 cv16] 42)):=((Below.refl _ w17).alloc (Nat.le_refl _) _).alloc (by simp) _
          have HB18:=Lib.hid (below_then HB17.out hbB HB17.out.size)
          have HM18:=Lib.hid (HM17.out.keep hbB)
          have HDO18:=Lib.hid (hd16.keep hbB)
          have HHO18:=Lib.hid (hh16.keep hbB)
          have HBO18:Hid (DkBox ((w17.alloc (.cells #[.int .i64 Er,.slice a16 n16 c16,.int .i64 El,.bool Ed] 38)).alloc (.cells #[.int .i64 tm,.int .i64 vt,.int .i64 bs,.int .i64 bt,.slice ar16 nr16 cr16,.string sn,.slice av16 nv16 cv16] 42)) w17.heap.size ⟨Er,Ef,El,Ed⟩ a16 n16 c16):=Lib.hid (Four.alloc (DkBox.new w17 ⟨Er,Ef,El,Ed⟩ a16 n16 c16) _)
          have HBH18:Hid (Blk ((w17.alloc (.cells #[.int .i64 Er,.slice a16 n16 c16,.int .i64 El,.bool Ed] 38)).alloc (.cells #[.int .i64 tm,.int .i64 vt,.int .i64 bs,.int .i64 bt,.slice ar16 nr16 cr16,.string sn,.slice av16 nv16 cv16] 42)) (w17.heap.size+1) 42 [.int .i64 tm,.int .i64 vt,.int .i64 bs,.int .i64 bt,.slice ar16 nr16 cr16,.string sn,.slice av16 nv16 cv16]):=Lib.hid (Blk.both w17 (.cells #[.int .i64 Er,.slice a16 n16 c16,.int .i64 El,.bool Ed] 38) (.cells #[.int .i64 tm,.int .i64 vt,.int .i64 bs,.int .i64 bt,.slice ar16 nr16 cr16,.string sn,.slice av16 nv16 cv16] 42) 38 42 [.int .i64 Er,.slice a16 n16 c16,.int .i64 El,.bool Ed] [.int .i64 tm,.int .i64 vt,.int .i64 bs,.int .i64 bt,.slice ar16 nr16 cr16,.string sn,.slice av16 nv16 cv16] rfl rfl).2
          have HLT:Hid (w.heap.size+1<w17.heap.size):=Lib.hid (by have:=hb16.size; omega)
          clear hd16 hh16 hb16 hbB hsb hsz
          clear HB17 HM17
          go_upto_region 21 with fail
          generalize ((w17.alloc (.cells #[.int .i64 Er,.slice a16 n16 c16,.int .i64 El,.bool Ed] 38)).alloc (.cells #[.int .i64 tm,.int .i64 vt,.int .i64 bs,.int .i64 bt,.slice ar16 nr16 cr16,.string sn,.slice av16 nv16 cv16] 42))=w18 at *
          generalize w17.heap.size=sO at *
          obtain⟨z0,z1,z2,z3,z4,z5,z6⟩:=HBH18.out.seven
          obtain⟨mb,mo,hme,hmc⟩:=hv_at HM18.out (by decide)
          cases hme
          obtain⟨y0,y1,y2,y3,y4,y5,y6⟩:=hmc 0 (by simp)
          clear hmc
          simp only [Nat.zero_mul,Nat.add_zero,List.getElem_cons_zero] at y0 y1 y2 y3 y4 y5 y6
          have HL1:Hid (∀ W,Below w18.heap.size w18 W→Calls Tryz.prog 27 #[.agg #[.int .i64 tm,.int .i64 vt,.int .i64 bs,.int .i64 bt,.slice ar16 nr16 cr16,.string sn,.slice av16 nv16 cv16],.agg #[.int .i64 tm,.int .i64 vt,.int .i64 bs,.int .i64 bt,.slice ar1 nr1 cr1,.string sn,.slice av1 nv1 cv1]] W fun e w'=>e = .returned (.bool true)∧Below W.heap.size W w'):=Lib.hid fun W hW=>like14_same ⟨tm,vt,bs,bt,rs,sn,vs⟩ ar16 nr16 cr16 av16 nv16 cv16 ar1 nr1 cr1 av1 nv1 cv1 W (HHO18.out.keep hW) ((HHA.out.keep HS.out.bel).keep (below_then HB18.out hW HB18.out.size))
          have p0:=Bel.cell z0; have p1:=Bel.cell z1; have p2:=Bel.cell z2; have p3:=Bel.cell z3; have p4:=Bel.cell z4; have p5:=Bel.cell z5; have p6:=Bel.cell z6
          have r0:=Bel.cell y0; have r1:=Bel.cell y1; have r2:=Bel.cell y2; have r3:=Bel.cell y3; have r4:=Bel.cell y4; have r5:=Bel.cell y5; have r6:=Bel.cell y6
          (try clear HAL); (try clear HOK); (try clear HTS); (try clear HTL); (try clear HTB); (try clear HHA); (try clear HLB); (try clear HL5); (try clear HUP); (try clear HPS); (try clear HPZ); (try clear HFM); (try clear HSZ); (try clear hlf); (try clear hlfI); (try clear HMB)
          clear z0 z1 z2 z3 z4 z5 z6 y0 y1 y2 y3 y4 y5 y6
          refine wp_region_bel (by kernel_rfl) (by kernel_rfl) ?_
          repeat (go_big_quiet_step (exact bel_of (HL1.out _ (Bel.bel _))))
          refine wpQuiet_nil ?_
          intro _ hw'
          obtain⟨⟨w19,hb19⟩,rfl⟩:=hw'
          clear p0 p1 p2 p3 p4 p5 p6 r0 r1 r2 r3 r4 r5 r6
          (try dsimp only)
          have HB19:=Lib.hid (below_then HB18.out hb19 HB18.out.size)
          have HM19:=Lib.hid (HM18.out.keep hb19)
          have HDO19:=Lib.hid (HDO18.out.keep hb19)
          have HHO19:=Lib.hid (HHO18.out.keep hb19)
          have HBO19:=Lib.hid (HBO18.out.keep hb19)
          have HBH19:=Lib.hid (HBH18.out.keep hb19)
          clear HB18 HM18 HDO18 HHO18 HBO18 HBH18
          clear hb19 HL1
          have HWB:=Lib.hid (HS.out.keep HB19.out)
          have d0:=HBO19.out.c0; have d1:=HBO19.out.c1; have d2:=HBO19.out.c2; have d3:=HBO19.out.c3
          obtain⟨z0,z1,z2,z3,z4,z5,z6⟩:=HBH19.out.seven
          have q0:=HWB.out.bd.c0; have q1:=HWB.out.bd.c1; have q2:=HWB.out.bd.c2; have q3:=HWB.out.bd.c3
          have f0:=HWB.out.bd.free 0; have f1:=HWB.out.bd.free 1; have f2:=HWB.out.bd.free 2; have f3:=HWB.out.bd.free 3
          obtain⟨y0,y1,y2,y3,y4,y5,y6⟩:=HWB.out.bh.seven
          obtain⟨g0,g1,g2,g3,g4,g5,g6⟩:=HWB.out.bh.free7
          dsimp only at d0 d1 d2 d3 q0 q1 q2 q3 y0 y1 y2 y3 y4 y5 y6
          go_upto_region 23 with fail
          have hlt:=HLT.out
          have n1:w.heap.size≠sO:=by omega
          have n2:w.heap.size+1≠sO:=by omega
          have n3:sO≠w.heap.size:=by omega
          have n4:sO≠w.heap.size+1:=by omega
          have n5:w.heap.size≠sO+1:=by omega
          have n6:sO+1≠w.heap.size:=by omega
          clear hlt
          go_region
          have HNX:=Lib.hid (PlSt.next HWB.out HDO19.out HHO19.out HFA.out.1 HFA.out.2)
          dsimp only at HNX
          clear d0 d1 d2 d3 z0 z1 z2 z3 z4 z5 z6 q0 q1 q2 q3 f0 f1 f2 f3 y0 y1 y2 y3 y4 y5 y6 g0 g1 g2 g3 g4 g5 g6 n1 n2 n3 n4 n5 n6 HWB
          clear HB19 HM19 HDO19 HHO19 HBO19 HBH19
          go_wp2_with fail
          go_roundg (tn - (k+1))
          case rel=>exact⟨k+1,j+1,⟨Er,Ef,El,Ed⟩,a16,n16,c16,⟨tm,vt,bs,bt,rs,sn,vs⟩,ar16,nr16,cr16,av16,nv16,cv16,by omega,rfl,by go_num,Lib.hid ⟨by have:=HI.out.1; omega,by have:=HI.out.1; omega,HIV.out⟩,HNX⟩
          case measure=>omega
         ·have hlfI:(decide (0≤lf))=false:=decide_eq_false hlf
          obtain⟨hlz,⟨Er,Ef,El,Ed⟩,hoo,hinv⟩:=HOP.out (by have:=HL5.out; omega)
          have HLZ:=Lib.hid hlz
          have HOO:=Lib.hid hoo
          have HIV:=Lib.hid hinv
          clear hlz hoo hinv HCR HOP
          obtain⟨x0,x1,x2,x3,x4,x5,x6,x7,x8⟩:=HT13.out.nine
          have q0:=HC13.out.c0; have q1:=HC13.out.c1; have q2:=HC13.out.c2; have q3:=HC13.out.c3
          dsimp only at q0 q1 q2 q3
          have HCC:=Lib.hid (wopen_any a11 n11 c11 ⟨Xr,Xf,Xl,Xd⟩ w13 HDX13.out HLZ.out (HTB.out _ (below_then HS.out.bel HB13.out HS.out.bel.size)) ⟨⟨Er,Ef,El,Ed⟩,⟨tm,vt,bs,bt,rs,sn,vs⟩,0⟩ (Lib.hid HOO.out.symm))
          unfold OpenP Dk.val Hd.val at HCC
          dsimp only at HCC
          go_upto_region 20 with fail
          clear x0 x1 x2 x3 x4 x5 x6 x7 x8
          go_wp2_with fail
          refine HCC.out.mono ?_
          rintro e w14 ⟨a16,n16,c16,ar16,nr16,cr16,av16,nv16,cv16,rfl,hd16,hh16,hb16,hfa,hfv⟩
          dsimp only
          have hsz:=HS.out.bh.lt
          have hsb:=HB13.out.size
          have HFA:Hid ((∀ q,ar16=some q→w.heap.size+1<q.block)∧(∀ q,av16=some q→w.heap.size+1<q.block)):=Lib.hid ⟨fun q e=>by have:=hfa q e; omega,fun q e=>by have:=hfv q e; omega⟩
          have HB14:=Lib.hid (below_then HB13.out hb16 HB13.out.size)
          have HM14:=Lib.hid (HM13.out.keep hb16)
          clear q0 q1 q2 q3 HCC HLZ HOO HDX13 hfa hfv HC13 HT13
          clear HB13 HM13
          have hbB:Below w14.heap.size w14 ((w14.alloc (.cells #[.int .i64 Er,.slice a16 n16 c16,.int .i64 El,.bool Ed] 38)).alloc (.cells #[.int .i64 tm,.int .i64 vt,.int .i64 bs,.int .i64 bt,.slice ar16 nr16 cr16,.string sn,.slice av16 nv16 cv16] 42)):=((Below.refl _ w14).alloc (Nat.le_refl _) _).alloc (by simp) _
          have HB15:=Lib.hid (below_then HB14.out hbB HB14.out.size)
          have HM15:=Lib.hid (HM14.out.keep hbB)
          have HDO15:=Lib.hid (hd16.keep hbB)
          have HHO15:=Lib.hid (hh16.keep hbB)
          have HBO15:Hid (DkBox ((w14.alloc (.cells #[.int .i64 Er,.slice a16 n16 c16,.int .i64 El,.bool Ed] 38)).alloc (.cells #[.int .i64 tm,.int .i64 vt,.int .i64 bs,.int .i64 bt,.slice ar16 nr16 cr16,.string sn,.slice av16 nv16 cv16] 42)) w14.heap.size ⟨Er,Ef,El,Ed⟩ a16 n16 c16):=Lib.hid (Four.alloc (DkBox.new w14 ⟨Er,Ef,El,Ed⟩ a16 n16 c16) _)
          have HBH15:Hid (Blk ((w14.alloc (.cells #[.int .i64 Er,.slice a16 n16 c16,.int .i64 El,.bool Ed] 38)).alloc (.cells #[.int .i64 tm,.int .i64 vt,.int .i64 bs,.int .i64 bt,.slice ar16 nr16 cr16,.string sn,.slice av16 nv16 cv16] 42)) (w14.heap.size+1) 42 [.int .i64 tm,.int .i64 vt,.int .i64 bs,.int .i64 bt,.slice ar16 nr16 cr16,.string sn,.slice av16 nv16 cv16]):=Lib.hid (Blk.both w14 (.cells #[.int .i64 Er,.slice a16 n16 c16,.int .i64 El,.bool Ed] 38) (.cells #[.int .i64 tm,.int .i64 vt,.int .i64 bs,.int .i64 bt,.slice ar16 nr16 cr16,.string sn,.slice av16 nv16 cv16] 42) 38 42 [.int .i64 Er,.slice a16 n16 c16,.int .i64 El,.bool Ed] [.int .i64 tm,.int .i64 vt,.int .i64 bs,.int .i64 bt,.slice ar16 nr16 cr16,.string sn,.slice av16 nv16 cv16] rfl rfl).2
          have HLT:Hid (w.heap.size+1<w14.heap.size):=Lib.hid (by have:=hb16.size; omega)
          clear hd16 hh16 hb16 hbB hsb hsz
          clear HB14 HM14
          go_upto_region 21 with fail
          generalize ((w14.alloc (.cells #[.int .i64 Er,.slice a16 n16 c16,.int .i64 El,.bool Ed] 38)).alloc (.cells #[.int .i64 tm,.int .i64 vt,.int .i64 bs,.int .i64 bt,.slice ar16 nr16 cr16,.string sn,.slice av16 nv16 cv16] 42))=w15 at *
          generalize w14.heap.size=sO at *
          obtain⟨z0,z1,z2,z3,z4,z5,z6⟩:=HBH15.out.seven
          obtain⟨mb,mo,hme,hmc⟩:=hv_at HM15.out (by decide)
          cases hme
          obtain⟨y0,y1,y2,y3,y4,y5,y6⟩:=hmc 0 (by simp)
          clear hmc
          simp only [Nat.zero_mul,Nat.add_zero,List.getElem_cons_zero] at y0 y1 y2 y3 y4 y5 y6
          have HL1:Hid (∀ W,Below w15.heap.size w15 W→Calls Tryz.prog 27 #[.agg #[.int .i64 tm,.int .i64 vt,.int .i64 bs,.int .i64 bt,.slice ar16 nr16 cr16,.string sn,.slice av16 nv16 cv16],.agg #[.int .i64 tm,.int .i64 vt,.int .i64 bs,.int .i64 bt,.slice ar1 nr1 cr1,.string sn,.slice av1 nv1 cv1]] W fun e w'=>e = .returned (.bool true)∧Below W.heap.size W w'):=Lib.hid fun W hW=>like14_same ⟨tm,vt,bs,bt,rs,sn,vs⟩ ar16 nr16 cr16 av16 nv16 cv16 ar1 nr1 cr1 av1 nv1 cv1 W (HHO15.out.keep hW) ((HHA.out.keep HS.out.bel).keep (below_then HB15.out hW HB15.out.size))
          have p0:=Bel.cell z0; have p1:=Bel.cell z1; have p2:=Bel.cell z2; have p3:=Bel.cell z3; have p4:=Bel.cell z4; have p5:=Bel.cell z5; have p6:=Bel.cell z6
          have r0:=Bel.cell y0; have r1:=Bel.cell y1; have r2:=Bel.cell y2; have r3:=Bel.cell y3; have r4:=Bel.cell y4; have r5:=Bel.cell y5; have r6:=Bel.cell y6
          (try clear HAL); (try clear HOK); (try clear HTS); (try clear HTL); (try clear HTB); (try clear HHA); (try clear HLB); (try clear HL5); (try clear HUP); (try clear HPS); (try clear HPZ); (try clear HFM); (try clear HSZ); (try clear hlf); (try clear hlfI); (try clear HMB)
          clear z0 z1 z2 z3 z4 z5 z6 y0 y1 y2 y3 y4 y5 y6
          refine wp_region_bel (by kernel_rfl) (by kernel_rfl) ?_
          repeat (go_big_quiet_step (exact bel_of (HL1.out _ (Bel.bel _))))
          refine wpQuiet_nil ?_
          intro _ hw'
          obtain⟨⟨w16,hb16⟩,rfl⟩:=hw'
          clear p0 p1 p2 p3 p4 p5 p6 r0 r1 r2 r3 r4 r5 r6
          (try dsimp only)
          have HB16:=Lib.hid (below_then HB15.out hb16 HB15.out.size)
          have HM16:=Lib.hid (HM15.out.keep hb16)
          have HDO16:=Lib.hid (HDO15.out.keep hb16)
          have HHO16:=Lib.hid (HHO15.out.keep hb16)
          have HBO16:=Lib.hid (HBO15.out.keep hb16)
          have HBH16:=Lib.hid (HBH15.out.keep hb16)
          clear HB15 HM15 HDO15 HHO15 HBO15 HBH15
          clear hb16 HL1
          have HWB:=Lib.hid (HS.out.keep HB16.out)
          have d0:=HBO16.out.c0; have d1:=HBO16.out.c1; have d2:=HBO16.out.c2; have d3:=HBO16.out.c3
          obtain⟨z0,z1,z2,z3,z4,z5,z6⟩:=HBH16.out.seven
          have q0:=HWB.out.bd.c0; have q1:=HWB.out.bd.c1; have q2:=HWB.out.bd.c2; have q3:=HWB.out.bd.c3
          have f0:=HWB.out.bd.free 0; have f1:=HWB.out.bd.free 1; have f2:=HWB.out.bd.free 2; have f3:=HWB.out.bd.free 3
          obtain⟨y0,y1,y2,y3,y4,y5,y6⟩:=HWB.out.bh.seven
          obtain⟨g0,g1,g2,g3,g4,g5,g6⟩:=HWB.out.bh.free7
          dsimp only at d0 d1 d2 d3 q0 q1 q2 q3 y0 y1 y2 y3 y4 y5 y6
          go_upto_region 23 with fail
          have hlt:=HLT.out
          have n1:w.heap.size≠sO:=by omega
          have n2:w.heap.size+1≠sO:=by omega
          have n3:sO≠w.heap.size:=by omega
          have n4:sO≠w.heap.size+1:=by omega
          have n5:w.heap.size≠sO+1:=by omega
          have n6:sO+1≠w.heap.size:=by omega
          clear hlt
          go_region
          have HNX:=Lib.hid (PlSt.next HWB.out HDO16.out HHO16.out HFA.out.1 HFA.out.2)
          dsimp only at HNX
          clear d0 d1 d2 d3 z0 z1 z2 z3 z4 z5 z6 q0 q1 q2 q3 f0 f1 f2 f3 y0 y1 y2 y3 y4 y5 y6 g0 g1 g2 g3 g4 g5 g6 n1 n2 n3 n4 n5 n6 HWB
          clear HB16 HM16 HDO16 HHO16 HBO16 HBH16
          go_wp2_with fail
          go_roundg (tn - (k+1))
          case rel=>exact⟨k+1,j+1,⟨Er,Ef,El,Ed⟩,a16,n16,c16,⟨tm,vt,bs,bt,rs,sn,vs⟩,ar16,nr16,cr16,av16,nv16,cv16,by omega,rfl,by go_num,Lib.hid ⟨by have:=HI.out.1; omega,by have:=HI.out.1; omega,HIV.out⟩,HNX⟩
          case measure=>omega
        ·clear HXE
         have hlf:0≤lf:=by
          by_cases h5:l5 = -1
          ·exact absurd (HUP.out h5) (by decide)
          ·have:=HL5.out; omega
         have hlfI:(decide (0≤lf))=true:=decide_eq_true hlf
         have HW13:=Lib.hid (HS.out.keep HB13.out)
         obtain⟨y0,y1,y2,y3,y4,y5,y6⟩:=HW13.out.bh.seven
         dsimp only at y0 y1 y2 y3 y4 y5 y6
         have HO14:Hid ((w13.alloc (.cells #[.int .i64 hm,.int .i64 ho,.int .i64 hb,.int .i64 ht,.slice ar nr cr,.string hs,.slice av nv cv] 42)).ownsRow s12 42 7 (.slice (some ⟨s12,0,none⟩) 1 1) 1 (hvE.cells [(⟨⟨tm,vt,bs,bt,rs,sn,vs⟩,ar1,nr1,cr1,av1,nv1,cv1⟩:Hv)])):=Lib.hid (HO13.out.alloc _)
         obtain⟨ah,ch,hhe,-,hsh,-,-,-⟩:=Enc.own_sl (hv_one w13 (⟨⟨hm,ho,hb,ht,hr,hs,hv⟩,ar,nr,cr,av,nv,cv⟩:Hv) w13.heap.size (Nat.le_refl _))
         obtain⟨rfl,rfl⟩:ah=some ⟨w13.heap.size,0,none⟩∧ch=1:=by cases hhe; exact⟨rfl,rfl⟩
         have HSH:Hid (hvE.Sl (w13.alloc (.cells #[.int .i64 hm,.int .i64 ho,.int .i64 hb,.int .i64 ht,.slice ar nr cr,.string hs,.slice av nv cv] 42)) (some ⟨w13.heap.size,0,none⟩) 1 [(⟨⟨hm,ho,hb,ht,hr,hs,hv⟩,ar,nr,cr,av,nv,cv⟩:Hv)]):=Lib.hid hsh
         have hb14:Below w13.heap.size w13 (w13.alloc (.cells #[.int .i64 hm,.int .i64 ho,.int .i64 hb,.int .i64 ht,.slice ar nr cr,.string hs,.slice av nv cv] 42)):=(Below.refl _ w13).alloc (Nat.le_refl _) _
         have HB14:=Lib.hid (below_then HB13.out hb14 HB13.out.size)
         have HT14:=Lib.hid (HT13.out.keep hb14)
         have HC14:=Lib.hid (HC13.out.keep hb14)
         have HDX14:=Lib.hid (HDX13.out.keep hb14)
         have HMC:=Lib.hid (HMB.out.keep hb14)
         have HSP:Hid (s12≤(w13.alloc (.cells #[.int .i64 hm,.int .i64 ho,.int .i64 hb,.int .i64 ht,.slice ar nr cr,.string hs,.slice av nv cv] 42)).heap.size):=Lib.hid (by have:=lt_of_block HMB.out; simp; omega)
         clear HB13 HT13 HC13
         clear HDX13 HMB hb14 hhe hsh HW13 HO13
         obtain⟨i0,hi,hz0,hz1,hz2⟩:=info_parts infoHard0
         have HI0:=Lib.hid hi
         have HZ0:=Lib.hid (And.intro hz0 (And.intro hz1 hz2))
         clear hi hz0 hz1 hz2
         go_upto_region 15 with fail
         go_wp2_with (at_builtin; refine Enc.wpList_app (E:=hvE) _ rfl _ _ 62 rfl s12 42 i0 _ 96 Tryz.underlying62 HI0.out HZ0.out.1 HZ0.out.2.1 HZ0.out.2.2 rfl _ 1 [(⟨⟨tm,vt,bs,bt,rs,sn,vs⟩,ar1,nr1,cr1,av1,nv1,cv1⟩:Hv)] HO14.out rfl (some ⟨w13.heap.size,0,none⟩) 1 1 [(⟨⟨hm,ho,hb,ht,hr,hs,hv⟩,ar,nr,cr,av,nv,cv⟩:Hv)] rfl HSH.out (fun e=>by cases e) (by decide) (by decide) HSP.out ?_)
         intro v15 w15 ho15 hg15
         obtain⟨am,cm,rfl,-,hsm,hfm,-,-⟩:=Enc.own_sl ho15
         have HM15:Hid (hvE.Sl w15 am 2 [(⟨⟨tm,vt,bs,bt,rs,sn,vs⟩,ar1,nr1,cr1,av1,nv1,cv1⟩:Hv),(⟨⟨hm,ho,hb,ht,hr,hs,hv⟩,ar,nr,cr,av,nv,cv⟩:Hv)]):=Lib.hid hsm
         have HFM:Hid (∀ q,am.map Addr.block=some q→s10<q):=Lib.hid (fun q e=>by
          cases am with
          | none=>cases e
          | some y =>
            have h1:=hfm y rfl
            have h2:y.block=q:=(by simpa using e)
            have:=HPZ.out
            omega)
         have hpz:=HPZ.out
         have HB15:Hid (Below wr.heap.size wr w15):=Lib.hid (HB14.out.grown hg15 HB14.out.size (fun q e=>by have h1:s12=q:=Option.some.inj e; omega))
         have HT15:=Lib.hid (HT14.out.kept hg15 (fun e=>by have h1:wr.heap.size=s12:=Option.some.inj e; omega))
         have HC15:Hid (DkBox w15 s10 ⟨Xr,Xf,Xl,Xd⟩ a11 n11 c11):=Lib.hid (Four.kept HC14.out hg15 (fun e=>by have h1:s10=s12:=Option.some.inj e; omega))
         have HDX15:=Lib.hid (dk_apart HDX14.out HMC.out apart_seven hg15)
         clear ho15 hsm hfm hpz hg15 HO14 HSH HDX14 HMC HSP HI0 HZ0 y0 y1 y2 y3 y4 y5 y6
         clear HB14 HT14 HC14
         go_upto_region 16 with fail
         obtain⟨x0,x1,x2,x3,x4,x5,x6,x7,x8⟩:=HT15.out.nine
         have q0:=HC15.out.c0; have q1:=HC15.out.c1; have q2:=HC15.out.c2; have q3:=HC15.out.c3
         dsimp only at q0 q1 q2 q3
         have hbA:Below w15.heap.size w15 (w15.alloc (.cells #[.int .i64 kp,.int .i64 kp,.int .i64 kp] 3)):=(Below.refl _ w15).alloc (Nat.le_refl _) _
         have HB16:=Lib.hid (below_then HB15.out hbA HB15.out.size)
         have HT16:=Lib.hid (HT15.out.keep hbA)
         have HC16:=Lib.hid (HC15.out.keep hbA)
         have HM16:=Lib.hid (HM15.out.keep hbA)
         have HCC:=Lib.hid (crash_any a11 n11 c11 ⟨Xr,Xf,Xl,Xd⟩ (some ⟨w15.heap.size,0,none⟩) 3 3 [kp,kp,kp] (w15.alloc (.cells #[.int .i64 kp,.int .i64 kp,.int .i64 kp] 3)) (HDX15.out.keep hbA) (three_ints w15 kp) (by decide))
         obtain⟨hright,hlz,⟨Er,Ef,El,Ed⟩,z,hoo,hzz,hinv⟩:=HCR.out [kp,kp,kp]
         rw [show crashD ⟨Xr,Xf,Xl,Xd⟩ [kp,kp,kp]=(⟨Xr,crashF [kp,kp,kp] 0 Xf,-1,false⟩,0) from by unfold crashD; rw [hright,if_neg (by decide)]; rfl] at HCC
         unfold crashed at hlz hoo
         dsimp only at hlz hoo
         obtain⟨Kf,hKf⟩:∃ K,K=crashF [kp,kp,kp] 0 Xf:=⟨_,rfl⟩
         rw [← hKf] at HCC hlz hoo
         have HLZ:=Lib.hid hlz
         have HOO:=Lib.hid hoo
         have HZZ:=Lib.hid hzz
         have HIV:=Lib.hid hinv
         clear hright hlz hoo hzz hinv hKf hbA HCR HOP HDX15
         unfold Dk.val at HCC
         dsimp only at HCC
         go_wp2_with fail
         refine HCC.out.mono ?_
         rintro e w17 ⟨a13,n13,c13,rfl,hd13,hb13⟩
         unfold Dk.val
         dsimp only at hd13 ⊢
         have HB17:=Lib.hid (below_then HB16.out hb13 HB16.out.size)
         have HT17:=Lib.hid (HT16.out.keep hb13)
         have HC17:=Lib.hid (HC16.out.keep hb13)
         have HM17:=Lib.hid (HM16.out.keep hb13)
         have HDX17:=Lib.hid hd13
         clear hb13 hd13 x0 x1 x2 x3 x4 x5 x6 x7 x8 q0 q1 q2 q3 HCC
         clear HB16 HT16 HC16 HM16
         clear HB15 HT15 HC15 HM15
         have q0:=HC17.out.c0; have q1:=HC17.out.c1; have q2:=HC17.out.c2; have q3:=HC17.out.c3
         have f0:=HC17.out.free 0; have f1:=HC17.out.free 1; have f2:=HC17.out.free 2; have f3:=HC17.out.free 3
         dsimp only at q0 q1 q2 q3
         go_upto_region 18 with fail
         clear q0 q1 q2 q3 f0 f1 f2 f3
         have hg17:=grown_four w17 s10 (.int .i64 Xr) (.slice a13 n13 c13) (.int .i64 (-1)) (.bool false)
         have HP17:=HPS.out
         have HB18:Hid (Below wr.heap.size wr ((((w17.setCell ⟨s10,0,none⟩ (.int .i64 Xr)).setCell ⟨s10,1,none⟩ (.slice a13 n13 c13)).setCell ⟨s10,2,none⟩ (.int .i64 (-1))).setCell ⟨s10,3,none⟩ (.bool false))):=Lib.hid (HB17.out.grown hg17 HB17.out.size (fun q e=>by have:=Option.some.inj e; omega))
         have HT18:=Lib.hid (HT17.out.kept hg17 (fun e=>by have:=Option.some.inj e; omega))
         have HC18:Hid (DkBox ((((w17.setCell ⟨s10,0,none⟩ (.int .i64 Xr)).setCell ⟨s10,1,none⟩ (.slice a13 n13 c13)).setCell ⟨s10,2,none⟩ (.int .i64 (-1))).setCell ⟨s10,3,none⟩ (.bool false)) s10 ⟨Xr,Kf,-1,false⟩ a13 n13 c13):=Lib.hid (DkBox.setF HC17.out ⟨Xr,Kf,-1,false⟩ a13 n13 c13)
         have HDX18:Hid (DkAt ((((w17.setCell ⟨s10,0,none⟩ (.int .i64 Xr)).setCell ⟨s10,1,none⟩ (.slice a13 n13 c13)).setCell ⟨s10,2,none⟩ (.int .i64 (-1))).setCell ⟨s10,3,none⟩ (.bool false)) a13 n13 c13 ⟨Xr,Kf,-1,false⟩):=Lib.hid (dk_apart HDX17.out (show Blk w17 s10 38 [.int .i64 Xr,.slice a11 n11 c11,.int .i64 Xl,.bool Xd] from HC17.out) apart_four hg17)
         have HM18:=Lib.hid (HM17.out.kept hg17 (fun q e he=>by have h1:=HFM.out q e; have:=Option.some.inj he; omega))
         clear HM17 hg17 HP17 HDX17
         clear HB17 HT17 HC17
         generalize ((((w17.setCell ⟨s10,0,none⟩ (.int .i64 Xr)).setCell ⟨s10,1,none⟩ (.slice a13 n13 c13)).setCell ⟨s10,2,none⟩ (.int .i64 (-1))).setCell ⟨s10,3,none⟩ (.bool false))=w18 at *
         rcases HZZ.out with rfl | ⟨-,rfl⟩
         ·clear HZZ
          have q0:=HC18.out.c0; have q1:=HC18.out.c1; have q2:=HC18.out.c2; have q3:=HC18.out.c3
          dsimp only at q0 q1 q2 q3
          have HCC:=Lib.hid (wopen_any a13 n13 c13 ⟨Xr,Kf,-1,false⟩ w18 HDX18.out HLZ.out (HTB.out _ (below_then HS.out.bel HB18.out HS.out.bel.size)) ⟨⟨Er,Ef,El,Ed⟩,⟨tm,vt,bs,bt,rs,sn,vs⟩,0⟩ (Lib.hid HOO.out.symm))
          unfold OpenP Dk.val Hd.val at HCC
          dsimp only at HCC
          go_upto_region 20 with fail
          go_wp2_with fail
          refine HCC.out.mono ?_
          rintro e w19 ⟨a16,n16,c16,ar16,nr16,cr16,av16,nv16,cv16,rfl,hd16,hh16,hb16,hfa,hfv⟩
          dsimp only
          have hsz:=HS.out.bh.lt
          have hsb:=HB18.out.size
          have HFA:Hid ((∀ q,ar16=some q→w.heap.size+1<q.block)∧(∀ q,av16=some q→w.heap.size+1<q.block)):=Lib.hid ⟨fun q e=>by have:=hfa q e; omega,fun q e=>by have:=hfv q e; omega⟩
          have HB19:=Lib.hid (below_then HB18.out hb16 HB18.out.size)
          have HM19:=Lib.hid (HM18.out.keep hb16)
          clear q0 q1 q2 q3 HCC HLZ HOO HDX18 hfa hfv HC18 HT18
          clear HB18 HM18
          have hbB:Below w19.heap.size w19 ((w19.alloc (.cells #[.int .i64 Er,.slice a16 n16 c16,.int .i64 El,.bool Ed] 38)).alloc (.cells #[.int .i64 tm,.int .i64 vt,.int .i64 bs,.int .i64 bt,.slice ar16 nr16 cr16,.string sn,.slice av16 nv16 cv16] 42)):=((Below.refl _ w19).alloc (Nat.le_refl _) _).alloc (by simp) _
          have HB20:=Lib.hid (below_then HB19.out hbB HB19.out.size)
          have HM20:=Lib.hid (HM19.out.keep hbB)
          have HDO20:=Lib.hid (hd16.keep hbB)
          have HHO20:=Lib.hid (hh16.keep hbB)
          have HBO20:Hid (DkBox ((w19.alloc (.cells #[.int .i64 Er,.slice a16 n16 c16,.int .i64 El,.bool Ed] 38)).alloc (.cells #[.int .i64 tm,.int .i64 vt,.int .i64 bs,.int .i64 bt,.slice ar16 nr16 cr16,.string sn,.slice av16 nv16 cv16] 42)) w19.heap.size ⟨Er,Ef,El,Ed⟩ a16 n16 c16):=Lib.hid (Four.alloc (DkBox.new w19 ⟨Er,Ef,El,Ed⟩ a16 n16 c16) _)
          have HBH20:Hid (Blk ((w19.alloc (.cells #[.int .i64 Er,.slice a16 n16 c16,.int .i64 El,.bool Ed] 38)).alloc (.cells #[.int .i64 tm,.int .i64 vt,.int .i64 bs,.int .i64 bt,.slice ar16 nr16 cr16,.string sn,.slice av16 nv16 cv16] 42)) (w19.heap.size+1) 42 [.int .i64 tm,.int .i64 vt,.int .i64 bs,.int .i64 bt,.slice ar16 nr16 cr16,.string sn,.slice av16 nv16 cv16]):=Lib.hid (Blk.both w19 (.cells #[.int .i64 Er,.slice a16 n16 c16,.int .i64 El,.bool Ed] 38) (.cells #[.int .i64 tm,.int .i64 vt,.int .i64 bs,.int .i64 bt,.slice ar16 nr16 cr16,.string sn,.slice av16 nv16 cv16] 42) 38 42 [.int .i64 Er,.slice a16 n16 c16,.int .i64 El,.bool Ed] [.int .i64 tm,.int .i64 vt,.int .i64 bs,.int .i64 bt,.slice ar16 nr16 cr16,.string sn,.slice av16 nv16 cv16] rfl rfl).2
          have HLT:Hid (w.heap.size+1<w19.heap.size):=Lib.hid (by have:=hb16.size; omega)
          clear hd16 hh16 hb16 hbB hsb hsz
          clear HB19 HM19
          go_upto_region 21 with fail
          generalize ((w19.alloc (.cells #[.int .i64 Er,.slice a16 n16 c16,.int .i64 El,.bool Ed] 38)).alloc (.cells #[.int .i64 tm,.int .i64 vt,.int .i64 bs,.int .i64 bt,.slice ar16 nr16 cr16,.string sn,.slice av16 nv16 cv16] 42))=w20 at *
          generalize w19.heap.size=sO at *
          obtain⟨z0,z1,z2,z3,z4,z5,z6⟩:=HBH20.out.seven
          obtain⟨mb,mo,hme,hmc⟩:=hv_at HM20.out (by decide)
          cases hme
          obtain⟨y0,y1,y2,y3,y4,y5,y6⟩:=hmc 0 (by simp)
          obtain⟨v0,v1,v2,v3,v4,v5,v6⟩:=hmc 1 (by simp)
          clear hmc
          simp only [Nat.zero_mul,Nat.one_mul,Nat.add_zero,Nat.add_assoc,Nat.reduceAdd,List.getElem_cons_zero,List.getElem_cons_succ] at y0 y1 y2 y3 y4 y5 y6 v0 v1 v2 v3 v4 v5 v6
          have HL1:Hid (∀ W,Below w20.heap.size w20 W→Calls Tryz.prog 27 #[.agg #[.int .i64 tm,.int .i64 vt,.int .i64 bs,.int .i64 bt,.slice ar16 nr16 cr16,.string sn,.slice av16 nv16 cv16],.agg #[.int .i64 tm,.int .i64 vt,.int .i64 bs,.int .i64 bt,.slice ar1 nr1 cr1,.string sn,.slice av1 nv1 cv1]] W fun e w'=>e = .returned (.bool true)∧Below W.heap.size W w'):=Lib.hid fun W hW=>like14_same ⟨tm,vt,bs,bt,rs,sn,vs⟩ ar16 nr16 cr16 av16 nv16 cv16 ar1 nr1 cr1 av1 nv1 cv1 W (HHO20.out.keep hW) ((HHA.out.keep HS.out.bel).keep (below_then HB20.out hW HB20.out.size))
          have p0:=Bel.cell z0; have p1:=Bel.cell z1; have p2:=Bel.cell z2; have p3:=Bel.cell z3; have p4:=Bel.cell z4; have p5:=Bel.cell z5; have p6:=Bel.cell z6
          have r0:=Bel.cell y0; have r1:=Bel.cell y1; have r2:=Bel.cell y2; have r3:=Bel.cell y3; have r4:=Bel.cell y4; have r5:=Bel.cell y5; have r6:=Bel.cell y6
          (try clear HAL); (try clear HOK); (try clear HTS); (try clear HTL); (try clear HTB); (try clear HHA); (try clear HLB); (try clear HL5); (try clear HUP); (try clear HPS); (try clear HPZ); (try clear HFM); (try clear HSZ); (try clear hlf); (try clear hlfI); (try clear HMB)
          clear z0 z1 z2 z3 z4 z5 z6 y0 y1 y2 y3 y4 y5 y6 v0 v1 v2 v3 v4 v5 v6
          refine wp_region_bel (by kernel_rfl) (by kernel_rfl) ?_
          repeat (go_big_quiet_step (exact bel_of (HL1.out _ (Bel.bel _))))
          refine wpQuiet_nil ?_
          intro _ hw'
          obtain⟨⟨w21,hb21⟩,rfl⟩:=hw'
          clear p0 p1 p2 p3 p4 p5 p6 r0 r1 r2 r3 r4 r5 r6
          (try dsimp only)
          have HB21:=Lib.hid (below_then HB20.out hb21 HB20.out.size)
          have HM21:=Lib.hid (HM20.out.keep hb21)
          have HDO21:=Lib.hid (HDO20.out.keep hb21)
          have HHO21:=Lib.hid (HHO20.out.keep hb21)
          have HBO21:=Lib.hid (HBO20.out.keep hb21)
          have HBH21:=Lib.hid (HBH20.out.keep hb21)
          clear HB20 HM20 HDO20 HHO20 HBO20 HBH20
          clear hb21 HL1
          have HWB:=Lib.hid (HS.out.keep HB21.out)
          have d0:=HBO21.out.c0; have d1:=HBO21.out.c1; have d2:=HBO21.out.c2; have d3:=HBO21.out.c3
          obtain⟨z0,z1,z2,z3,z4,z5,z6⟩:=HBH21.out.seven
          have q0:=HWB.out.bd.c0; have q1:=HWB.out.bd.c1; have q2:=HWB.out.bd.c2; have q3:=HWB.out.bd.c3
          have f0:=HWB.out.bd.free 0; have f1:=HWB.out.bd.free 1; have f2:=HWB.out.bd.free 2; have f3:=HWB.out.bd.free 3
          obtain⟨y0,y1,y2,y3,y4,y5,y6⟩:=HWB.out.bh.seven
          obtain⟨g0,g1,g2,g3,g4,g5,g6⟩:=HWB.out.bh.free7
          dsimp only at d0 d1 d2 d3 q0 q1 q2 q3 y0 y1 y2 y3 y4 y5 y6
          go_upto_region 23 with fail
          have hlt:=HLT.out
          have n1:w.heap.size≠sO:=by omega
          have n2:w.heap.size+1≠sO:=by omega
          have n3:sO≠w.heap.size:=by omega
          have n4:sO≠w.heap.size+1:=by omega
          have n5:w.heap.size≠sO+1:=by omega
          have n6:sO+1≠w.heap.size:=by omega
          clear hlt
          go_region
          have HNX:=Lib.hid (PlSt.next HWB.out HDO21.out HHO21.out HFA.out.1 HFA.out.2)
          dsimp only at HNX
          clear d0 d1 d2 d3 z0 z1 z2 z3 z4 z5 z6 q0 q1 q2 q3 f0 f1 f2 f3 y0 y1 y2 y3 y4 y5 y6 g0 g1 g2 g3 g4 g5 g6 n1 n2 n3 n4 n5 n6 HWB
          clear HB21 HM21 HDO21 HHO21 HBO21 HBH21
          go_wp2_with fail
          go_roundg (tn - (k+1))
          case rel=>exact⟨k+1,j+1,⟨Er,Ef,El,Ed⟩,a16,n16,c16,⟨tm,vt,bs,bt,rs,sn,vs⟩,ar16,nr16,cr16,av16,nv16,cv16,by omega,rfl,by go_num,Lib.hid ⟨by have:=HI.out.1; omega,by have:=HI.out.1; omega,HIV.out⟩,HNX⟩
          case measure=>omega
         ·clear HZZ
          have q0:=HC18.out.c0; have q1:=HC18.out.c1; have q2:=HC18.out.c2; have q3:=HC18.out.c3
          dsimp only at q0 q1 q2 q3
          have HCC:=Lib.hid (wopen_any a13 n13 c13 ⟨Xr,Kf,-1,false⟩ w18 HDX18.out HLZ.out (HTB.out _ (below_then HS.out.bel HB18.out HS.out.bel.size)) ⟨⟨Er,Ef,El,Ed⟩,⟨hm,ho,hb,ht,hr,hs,hv⟩,0⟩ (Lib.hid HOO.out.symm))
          unfold OpenP Dk.val Hd.val at HCC
          dsimp only at HCC
          go_upto_region 20 with fail
          go_wp2_with fail
          refine HCC.out.mono ?_
          rintro e w19 ⟨a16,n16,c16,ar16,nr16,cr16,av16,nv16,cv16,rfl,hd16,hh16,hb16,hfa,hfv⟩
          dsimp only
          have hsz:=HS.out.bh.lt
          have hsb:=HB18.out.size
          have HFA:Hid ((∀ q,ar16=some q→w.heap.size+1<q.block)∧(∀ q,av16=some q→w.heap.size+1<q.block)):=Lib.hid ⟨fun q e=>by have:=hfa q e; omega,fun q e=>by have:=hfv q e; omega⟩
          have HB19:=Lib.hid (below_then HB18.out hb16 HB18.out.size)
          have HM19:=Lib.hid (HM18.out.keep hb16)
          clear q0 q1 q2 q3 HCC HLZ HOO HDX18 hfa hfv HC18 HT18
          clear HB18 HM18
          have hbB:Below w19.heap.size w19 ((w19.alloc (.cells #[.int .i64 Er,.slice a16 n16 c16,.int .i64 El,.bool Ed] 38)).alloc (.cells #[.int .i64 hm,.int .i64 ho,.int .i64 hb,.int .i64 ht,.slice ar16 nr16 cr16,.string hs,.slice av16 nv16 cv16] 42)):=((Below.refl _ w19).alloc (Nat.le_refl _) _).alloc (by simp) _
          have HB20:=Lib.hid (below_then HB19.out hbB HB19.out.size)
          have HM20:=Lib.hid (HM19.out.keep hbB)
          have HDO20:=Lib.hid (hd16.keep hbB)
          have HHO20:=Lib.hid (hh16.keep hbB)
          have HBO20:Hid (DkBox ((w19.alloc (.cells #[.int .i64 Er,.slice a16 n16 c16,.int .i64 El,.bool Ed] 38)).alloc (.cells #[.int .i64 hm,.int .i64 ho,.int .i64 hb,.int .i64 ht,.slice ar16 nr16 cr16,.string hs,.slice av16 nv16 cv16] 42)) w19.heap.size ⟨Er,Ef,El,Ed⟩ a16 n16 c16):=Lib.hid (Four.alloc (DkBox.new w19 ⟨Er,Ef,El,Ed⟩ a16 n16 c16) _)
          have HBH20:Hid (Blk ((w19.alloc (.cells #[.int .i64 Er,.slice a16 n16 c16,.int .i64 El,.bool Ed] 38)).alloc (.cells #[.int .i64 hm,.int .i64 ho,.int .i64 hb,.int .i64 ht,.slice ar16 nr16 cr16,.string hs,.slice av16 nv16 cv16] 42)) (w19.heap.size+1) 42 [.int .i64 hm,.int .i64 ho,.int .i64 hb,.int .i64 ht,.slice ar16 nr16 cr16,.string hs,.slice av16 nv16 cv16]):=Lib.hid (Blk.both w19 (.cells #[.int .i64 Er,.slice a16 n16 c16,.int .i64 El,.bool Ed] 38) (.cells #[.int .i64 hm,.int .i64 ho,.int .i64 hb,.int .i64 ht,.slice ar16 nr16 cr16,.string hs,.slice av16 nv16 cv16] 42) 38 42 [.int .i64 Er,.slice a16 n16 c16,.int .i64 El,.bool Ed] [.int .i64 hm,.int .i64 ho,.int .i64 hb,.int .i64 ht,.slice ar16 nr16 cr16,.string hs,.slice av16 nv16 cv16] rfl rfl).2
          have HLT:Hid (w.heap.size+1<w19.heap.size):=Lib.hid (by have:=hb16.size; omega)
          clear hd16 hh16 hb16 hbB hsb hsz
          clear HB19 HM19
          go_upto_region 21 with fail
          generalize ((w19.alloc (.cells #[.int .i64 Er,.slice a16 n16 c16,.int .i64 El,.bool Ed] 38)).alloc (.cells #[.int .i64 hm,.int .i64 ho,.int .i64 hb,.int .i64 ht,.slice ar16 nr16 cr16,.string hs,.slice av16 nv16 cv16] 42))=w20 at *
          generalize w19.heap.size=sO at *
          obtain⟨z0,z1,z2,z3,z4,z5,z6⟩:=HBH20.out.seven
          obtain⟨mb,mo,hme,hmc⟩:=hv_at HM20.out (by decide)
          cases hme
          obtain⟨y0,y1,y2,y3,y4,y5,y6⟩:=hmc 0 (by simp)
          obtain⟨v0,v1,v2,v3,v4,v5,v6⟩:=hmc 1 (by simp)
          clear hmc
          simp only [Nat.zero_mul,Nat.one_mul,Nat.add_zero,Nat.add_assoc,Nat.reduceAdd,List.getElem_cons_zero,List.getElem_cons_succ] at y0 y1 y2 y3 y4 y5 y6 v0 v1 v2 v3 v4 v5 v6
          obtain⟨bq,hbq⟩:∃ v,v=decide (sameH (⟨hm,ho,hb,ht,hr,hs,hv⟩:Hd) ⟨tm,vt,bs,bt,rs,sn,vs⟩):=⟨_,rfl⟩
          have HL1:Hid (∀ W,Below w20.heap.size w20 W→Calls Tryz.prog 27 #[.agg #[.int .i64 hm,.int .i64 ho,.int .i64 hb,.int .i64 ht,.slice ar16 nr16 cr16,.string hs,.slice av16 nv16 cv16],.agg #[.int .i64 tm,.int .i64 vt,.int .i64 bs,.int .i64 bt,.slice ar1 nr1 cr1,.string sn,.slice av1 nv1 cv1]] W fun e w'=>e = .returned (.bool bq)∧Below W.heap.size W w'):=Lib.hid fun W hW=>rlike14_any ⟨hm,ho,hb,ht,hr,hs,hv⟩ ⟨tm,vt,bs,bt,rs,sn,vs⟩ ar16 nr16 cr16 av16 nv16 cv16 ar1 nr1 cr1 av1 nv1 cv1 W (HHO20.out.keep hW) ((HHA.out.keep HS.out.bel).keep (below_then HB20.out hW HB20.out.size)) bq (Lib.hid hbq)
          clear hbq
          cases bq with
          | true =>
            have p0:=Bel.cell z0; have p1:=Bel.cell z1; have p2:=Bel.cell z2; have p3:=Bel.cell z3; have p4:=Bel.cell z4; have p5:=Bel.cell z5; have p6:=Bel.cell z6
            have r0:=Bel.cell y0; have r1:=Bel.cell y1; have r2:=Bel.cell y2; have r3:=Bel.cell y3; have r4:=Bel.cell y4; have r5:=Bel.cell y5; have r6:=Bel.cell y6
            (try clear HAL); (try clear HOK); (try clear HTS); (try clear HTL); (try clear HTB); (try clear HHA); (try clear HLB); (try clear HL5); (try clear HUP); (try clear HPS); (try clear HPZ); (try clear HFM); (try clear HSZ); (try clear hlf); (try clear hlfI); (try clear HMB)
            clear z0 z1 z2 z3 z4 z5 z6 y0 y1 y2 y3 y4 y5 y6 v0 v1 v2 v3 v4 v5 v6
            refine wp_region_bel (by kernel_rfl) (by kernel_rfl) ?_
            repeat (go_big_quiet_step (exact bel_of (HL1.out _ (Bel.bel _))))
            refine wpQuiet_nil ?_
            intro _ hw'
            obtain⟨⟨w21,hb21⟩,rfl⟩:=hw'
            clear p0 p1 p2 p3 p4 p5 p6 r0 r1 r2 r3 r4 r5 r6
            (try dsimp only)
            have HB21:=Lib.hid (below_then HB20.out hb21 HB20.out.size)
            have HM21:=Lib.hid (HM20.out.keep hb21)
            have HDO21:=Lib.hid (HDO20.out.keep hb21)
            have HHO21:=Lib.hid (HHO20.out.keep hb21)
            have HBO21:=Lib.hid (HBO20.out.keep hb21)
            have HBH21:=Lib.hid (HBH20.out.keep hb21)
            clear HB20 HM20 HDO20 HHO20 HBO20 HBH20
            clear hb21 HL1
            have HWB:=Lib.hid (HS.out.keep HB21.out)
            have d0:=HBO21.out.c0; have d1:=HBO21.out.c1; have d2:=HBO21.out.c2; have d3:=HBO21.out.c3
            obtain⟨z0,z1,z2,z3,z4,z5,z6⟩:=HBH21.out.seven
            have q0:=HWB.out.bd.c0; have q1:=HWB.out.bd.c1; have q2:=HWB.out.bd.c2; have q3:=HWB.out.bd.c3
            have f0:=HWB.out.bd.free 0; have f1:=HWB.out.bd.free 1; have f2:=HWB.out.bd.free 2; have f3:=HWB.out.bd.free 3
            obtain⟨y0,y1,y2,y3,y4,y5,y6⟩:=HWB.out.bh.seven
            obtain⟨g0,g1,g2,g3,g4,g5,g6⟩:=HWB.out.bh.free7
            dsimp only at d0 d1 d2 d3 q0 q1 q2 q3 y0 y1 y2 y3 y4 y5 y6
            go_upto_region 23 with fail
            have hlt:=HLT.out
            have n1:w.heap.size≠sO:=by omega
            have n2:w.heap.size+1≠sO:=by omega
            have n3:sO≠w.heap.size:=by omega
            have n4:sO≠w.heap.size+1:=by omega
            have n5:w.heap.size≠sO+1:=by omega
            have n6:sO+1≠w.heap.size:=by omega
            clear hlt
            go_region
            have HNX:=Lib.hid (PlSt.next HWB.out HDO21.out HHO21.out HFA.out.1 HFA.out.2)
            dsimp only at HNX
            clear d0 d1 d2 d3 z0 z1 z2 z3 z4 z5 z6 q0 q1 q2 q3 f0 f1 f2 f3 y0 y1 y2 y3 y4 y5 y6 g0 g1 g2 g3 g4 g5 g6 n1 n2 n3 n4 n5 n6 HWB
            clear HB21 HM21 HDO21 HHO21 HBO21 HBH21
            go_wp2_with fail
            go_roundg (tn - (k+1))
            case rel=>exact⟨k+1,j+1,⟨Er,Ef,El,Ed⟩,a16,n16,c16,⟨hm,ho,hb,ht,hr,hs,hv⟩,ar16,nr16,cr16,av16,nv16,cv16,by omega,rfl,by go_num,Lib.hid ⟨by have:=HI.out.1; omega,by have:=HI.out.1; omega,HIV.out⟩,HNX⟩
            case measure=>omega
          | false =>
            have HL2:Hid (∀ W,Below w20.heap.size w20 W→Calls Tryz.prog 27 #[.agg #[.int .i64 hm,.int .i64 ho,.int .i64 hb,.int .i64 ht,.slice ar16 nr16 cr16,.string hs,.slice av16 nv16 cv16],.agg #[.int .i64 hm,.int .i64 ho,.int .i64 hb,.int .i64 ht,.slice ar nr cr,.string hs,.slice av nv cv]] W fun e w'=>e = .returned (.bool true)∧Below W.heap.size W w'):=Lib.hid fun W hW=>like14_same ⟨hm,ho,hb,ht,hr,hs,hv⟩ ar16 nr16 cr16 av16 nv16 cv16 ar nr cr av nv cv W (HHO20.out.keep hW) ((HS.out.keep HB20.out).keep hW).hd
            have p0:=Bel.cell z0; have p1:=Bel.cell z1; have p2:=Bel.cell z2; have p3:=Bel.cell z3; have p4:=Bel.cell z4; have p5:=Bel.cell z5; have p6:=Bel.cell z6
            have r0:=Bel.cell y0; have r1:=Bel.cell y1; have r2:=Bel.cell y2; have r3:=Bel.cell y3; have r4:=Bel.cell y4; have r5:=Bel.cell y5; have r6:=Bel.cell y6
            have u0:=Bel.cell v0; have u1:=Bel.cell v1; have u2:=Bel.cell v2; have u3:=Bel.cell v3; have u4:=Bel.cell v4; have u5:=Bel.cell v5; have u6:=Bel.cell v6
            (try clear HAL); (try clear HOK); (try clear HTS); (try clear HTL); (try clear HTB); (try clear HHA); (try clear HLB); (try clear HL5); (try clear HUP); (try clear HPS); (try clear HPZ); (try clear HFM); (try clear HSZ); (try clear hlf); (try clear hlfI); (try clear HMB)
            clear z0 z1 z2 z3 z4 z5 z6 y0 y1 y2 y3 y4 y5 y6 v0 v1 v2 v3 v4 v5 v6
            refine wp_region_bel (by kernel_rfl) (by kernel_rfl) ?_
            repeat (go_big_quiet_step (first | (with_reducible exact bel_of (HL2.out _ (Bel.bel _))) | exact bel_of (HL1.out _ (Bel.bel _))))
            refine wpQuiet_nil ?_
            intro _ hw'
            obtain⟨⟨w21,hb21⟩,rfl⟩:=hw'
            clear p0 p1 p2 p3 p4 p5 p6 r0 r1 r2 r3 r4 r5 r6 u0 u1 u2 u3 u4 u5 u6
            (try dsimp only)
            have HB21:=Lib.hid (below_then HB20.out hb21 HB20.out.size)
            have HM21:=Lib.hid (HM20.out.keep hb21)
            have HDO21:=Lib.hid (HDO20.out.keep hb21)
            have HHO21:=Lib.hid (HHO20.out.keep hb21)
            have HBO21:=Lib.hid (HBO20.out.keep hb21)
            have HBH21:=Lib.hid (HBH20.out.keep hb21)
            clear HB20 HM20 HDO20 HHO20 HBO20 HBH20
            clear hb21 HL1
            have HWB:=Lib.hid (HS.out.keep HB21.out)
            have d0:=HBO21.out.c0; have d1:=HBO21.out.c1; have d2:=HBO21.out.c2; have d3:=HBO21.out.c3
            obtain⟨z0,z1,z2,z3,z4,z5,z6⟩:=HBH21.out.seven
            have q0:=HWB.out.bd.c0; have q1:=HWB.out.bd.c1; have q2:=HWB.out.bd.c2; have q3:=HWB.out.bd.c3
            have f0:=HWB.out.bd.free 0; have f1:=HWB.out.bd.free 1; have f2:=HWB.out.bd.free 2; have f3:=HWB.out.bd.free 3
            obtain⟨y0,y1,y2,y3,y4,y5,y6⟩:=HWB.out.bh.seven
            obtain⟨g0,g1,g2,g3,g4,g5,g6⟩:=HWB.out.bh.free7
            dsimp only at d0 d1 d2 d3 q0 q1 q2 q3 y0 y1 y2 y3 y4 y5 y6
            go_upto_region 23 with fail
            have hlt:=HLT.out
            have n1:w.heap.size≠sO:=by omega
            have n2:w.heap.size+1≠sO:=by omega
            have n3:sO≠w.heap.size:=by omega
            have n4:sO≠w.heap.size+1:=by omega
            have n5:w.heap.size≠sO+1:=by omega
            have n6:sO+1≠w.heap.size:=by omega
            clear hlt
            go_region
            have HNX:=Lib.hid (PlSt.next HWB.out HDO21.out HHO21.out HFA.out.1 HFA.out.2)
            dsimp only at HNX
            clear d0 d1 d2 d3 z0 z1 z2 z3 z4 z5 z6 q0 q1 q2 q3 f0 f1 f2 f3 y0 y1 y2 y3 y4 y5 y6 g0 g1 g2 g3 g4 g5 g6 n1 n2 n3 n4 n5 n6 HWB
            clear HB21 HM21 HDO21 HHO21 HBO21 HBH21
            go_wp2_with fail
            go_roundg (tn - (k+1))
            case rel=>exact⟨k+1,j+1,⟨Er,Ef,El,Ed⟩,a16,n16,c16,⟨hm,ho,hb,ht,hr,hs,hv⟩,ar16,nr16,cr16,av16,nv16,cv16,by omega,rfl,by go_num,Lib.hid ⟨by have:=HI.out.1; omega,by have:=HI.out.1; omega,HIV.out⟩,HNX⟩
            case measure=>omega
   ·have hk12i:(12:Int)≤(k:Int):=by omega
    go_wp2_with fail
    go_roundg (tn - (k+1))
    case rel=>exact⟨k+1,j,⟨dr,df,dl,dd⟩,a,n,c,⟨hm,ho,hb,ht,hr,hs,hv⟩,ar,nr,cr,av,nv,cv,by omega,rfl,by go_num,Lib.hid ⟨by have:=HI.out.1; omega,HI.out.2⟩,Lib.hid (HS.out.keep HB6.out)⟩
    case measure=>omega
  ·have hki:(tn:Int)≤(k:Int):=by omega
   have HB9:=Lib.hid HS.out.bel
   go_wp2_with fail
   refine (HAL.out _ HB9.out).mono ?_
   rintro e w9 ⟨rfl,hb9⟩
   dsimp only
   have HB10:=Lib.hid (below_then HB9.out hb9 HB9.out.size)
   go_wp2_with fail
   go_ret
   exact⟨rfl,HB10.out⟩
end Go.Proofs.YtlpgbmaoenncjaaGreatDoor

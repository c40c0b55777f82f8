/-
  States in memory; the walks of wal.within and wal.shaped, and of the reference's in, Voters and Log: new blocks alone are made; the slices within reach. (Written by wip/mkwka.py.)
-/
import Derived.Test.YtlpgbmaoenncjaaGreatDoorWlP
import Derived.Test.YtlpgbmaoenncjaaGreatDoorNmAll
namespace Go.Proofs.YtlpgbmaoenncjaaGreatDoor
open Go.RowKit
set_option linter.unusedVariables false
set_option maxHeartbeats 1000000 in
theorem ww_any (n lo hi:Int) (w:World):Calls Tryz.prog 116 #[.int .i64 n,.int .i64 lo,.int .i64 hi] w fun e w'=>e = .returned (.bool (decide (lo≤n)&&decide (n≤hi)))∧w=w':=by
 go_enter Tryz.func116,Tryz.ntmps116
 go_wp2_with fail
 all_goals (go_ret; refine⟨ret_bool ?_,rfl⟩; rw [Bool.eq_iff_iff]; simp; omega)
def Hd.val (h:Hd) (ar:Option Addr) (nr cr:Nat) (av:Option Addr) (nv cv:Nat):Value :=
 .agg #[.int .i64 h.term,.int .i64 h.vote,.int .i64 h.base,.int .i64 h.bt,.slice ar nr cr,.string h.snap,.slice av nv cv]
structure HdAt (w:World) (h:Hd) (ar:Option Addr) (nr cr:Nat) (av:Option Addr) (nv cv:Nat):Prop where
 recs:rcE.Sl w ar nr h.recs
 voters:SlAt w av nv (i64s h.voters)
 cap:nr≤cr
 nr:nr≤100000000000000
 nv:nv≤100000000000000
 data:∀ r∈h.recs,r.data.size≤140737488355328∧in63 r.term∧in63 r.kind
 snap:h.snap.size≤140737488355328
 nums:in63 h.term∧in63 h.vote∧in63 h.base∧in63 h.bt
 vots:∀ x∈h.voters,in63 x
theorem HdAt.keep {w w':World}{h:Hd}{ar:Option Addr}{nr cr:Nat}{av:Option Addr}{nv cv:Nat}(H:HdAt w h ar nr cr av nv cv) (hb:Below w.heap.size w w'):HdAt w' h ar nr cr av nv cv :=
 { H with recs:=H.recs.keep hb,voters:=H.voters.keep hb }
theorem HdAt.rlen {w:World}{h:Hd}{ar:Option Addr}{nr cr:Nat}{av:Option Addr}{nv cv:Nat}(H:HdAt w h ar nr cr av nv cv):nr=h.recs.length:=H.recs.1
theorem HdAt.vlen {w:World}{h:Hd}{ar:Option Addr}{nr cr:Nat}{av:Option Addr}{nv cv:Nat}(H:HdAt w h ar nr cr av nv cv):nv=h.voters.length:=by have:=H.voters.1; rw [i64s_length] at this; exact this
theorem HdAt.wf {w:World}{h:Hd}{ar:Option Addr}{nr cr:Nat}{av:Option Addr}{nv cv:Nat}(H:HdAt w h ar nr cr av nv cv):∀ r∈h.recs,r.wf:=fun r hr=>by have:=(H.data r hr).1; unfold Rc.wf maxLen; omega
theorem Blk.both (w:World) (a b:Obj) (t u:TypeId) (cs ds:List Value) (ha:a = .cells cs.toArray t (0,0)) (hb:b = .cells ds.toArray u (0,0)):Blk ((w.alloc a).alloc b) w.heap.size t cs∧Blk ((w.alloc a).alloc b) (w.heap.size+1) u ds:=by
 subst ha hb
 refine⟨Blk.alloc (heap_alloc_new w _) _,?_⟩
 have hz:=heap_alloc_new (w.alloc (.cells cs.toArray t)) (.cells ds.toArray u)
 rw [World.size_alloc] at hz
 exact hz
set_option maxRecDepth 100000 in
set_option maxHeartbeats 4000000 in
theorem wshaped_any (h:Hd) (ar:Option Addr) (nr cr:Nat) (av:Option Addr) (nv cv:Nat) (w:World) (H:HdAt w h ar nr cr av nv cv) (v:Bool) (hv:Hid (v=shapedH h)) :
 Calls Tryz.prog 66 #[h.val ar nr cr av nv cv] w fun e w'=>e = .returned (.bool v)∧Below w.heap.size w w':=by
 obtain⟨tm,vo,ba,bt,rs,sn,vs⟩:=h
 unfold Hd.val
 dsimp only
 have HN:=Lib.hid (show nr=rs.length from H.rlen)
 have HNV:=Lib.hid (show nv=vs.length from H.vlen)
 have hnr:=H.nr
 have hnv:=H.nv
 have hsn:sn.size≤140737488355328:=H.snap
 replace H:=Lib.hid H
 have HB0:=Lib.hid (((Below.refl _ w).alloc (Nat.le_refl _) (.cells #[.int .i64 tm,.int .i64 vo,.int .i64 ba,.int .i64 bt,.slice ar nr cr,.string sn,.slice av nv cv] 42)).alloc (by simp) (.cells #[.int .i64 ba,.int .i64 bt,.slice ar nr cr] 40))
 have HK0:=Lib.hid (Blk.both w (.cells #[.int .i64 tm,.int .i64 vo,.int .i64 ba,.int .i64 bt,.slice ar nr cr,.string sn,.slice av nv cv] 42) (.cells #[.int .i64 ba,.int .i64 bt,.slice ar nr cr] 40) _ _ [.int .i64 tm,.int .i64 vo,.int .i64 ba,.int .i64 bt,.slice ar nr cr,.string sn,.slice av nv cv] [.int .i64 ba,.int .i64 bt,.slice ar nr cr] rfl rfl).1
 have HL0:=Lib.hid (Blk.both w (.cells #[.int .i64 tm,.int .i64 vo,.int .i64 ba,.int .i64 bt,.slice ar nr cr,.string sn,.slice av nv cv] 42) (.cells #[.int .i64 ba,.int .i64 bt,.slice ar nr cr] 40) _ _ [.int .i64 tm,.int .i64 vo,.int .i64 ba,.int .i64 bt,.slice ar nr cr,.string sn,.slice av nv cv] [.int .i64 ba,.int .i64 bt,.slice ar nr cr] rfl rfl).2
 by_cases hh:headW ⟨tm,vo,ba,bt,rs,sn,vs⟩
 ·have hh2:=hh
  obtain⟨⟨g1,g2⟩,⟨g3,g4⟩,⟨g5,g6,g7,g8,g9,g10,g11⟩,g12,g13⟩:=hh2
  dsimp only at g1 g2 g3 g4 g5 g6 g7 g8 g9 g10 g11 g12 g13
  rw [← HN.out] at g10 g11
  rw [← HNV.out] at g12
  have HV:Hid (v=(rowsW tm bt rs&&votersW vs)):=Lib.hid (by rw [hv.out]; unfold shapedH; rw [decide_eq_true hh,Bool.true_and])
  have b5:(ba==0)=(bt==0):=by rw [Bool.eq_iff_iff,beq_iff_eq,beq_iff_eq]; exact g9
  have b6:decide (200<(nr:Int))=false:=decide_eq_false (by omega)
  have b7:decide (1073741824 - (nr:Int)<ba)=false:=decide_eq_false (by omega)
  have b8:decide (7<(nv:Int))=false:=decide_eq_false (by omega)
  have b9:decide (131072<(sn.size:Int))=false:=decide_eq_false (by omega)
  have q1:=decide_eq_true g1
  have q2:=decide_eq_true g2
  have q3:=decide_eq_true g3
  have q4:=decide_eq_true g4
  have q5:=decide_eq_true g5
  have q6:=decide_eq_true g6
  have q7:=decide_eq_true g7
  have q8:=decide_eq_true g8
  clear hv g1 g2 g3 g4 g5 g6 g7 g8 g9
  go_enter Tryz.func66,Tryz.ntmps66
  have hb0:True:=trivial
  have hl0:=HL0.out.cell (j:=0) rfl
  have hl1:=HL0.out.cell (j:=1) rfl
  have hl2:=HL0.out.cell (j:=2) rfl
  have hk0:=HK0.out.cell (j:=0) rfl
  have hk1:=HK0.out.cell (j:=1) rfl
  have hk5:=HK0.out.cell (j:=5) rfl
  have hk6:=HK0.out.cell (j:=6) rfl
  go_wp2_with (go_at_call 116; refine (ww_any _ _ _ _).mono ?_; rintro e w' ⟨rfl,rfl⟩)
  all_goals (
   clear hk0 hk1 hk5 hk6
   clear hb0 hl0 hl1 hl2 q1 q2 q3 q4 q5 q6 q7 q8 b5 b6 b7 b8 b9 hh
   generalize ((w.alloc (.cells #[.int .i64 tm,.int .i64 vo,.int .i64 ba,.int .i64 bt,.slice ar nr cr,.string sn,.slice av nv cv] 42)).alloc (.cells #[.int .i64 ba,.int .i64 bt,.slice ar nr cr] 40))=W at *
   go_loopg [4,77] nr (fun gk t i wr=>∃ k:Nat,k≤nr∧gk=nr - k∧i = .int .i64 (k:Int)∧t = .int .i64 (termAt bt rs k)∧Hid (∀ i,i<k→goodW tm bt rs i=true)∧Hid (Below W.heap.size W wr))
   case atStart=>exact⟨0,Nat.zero_le _,rfl,rfl,(by show Value.int .i64 _=Value.int .i64 (max bt 1); congr 1 <;> omega),Lib.hid (fun i h=>absurd h (Nat.not_lt_zero _)),Lib.hid (Below.refl _ _)⟩
   case round =>
    obtain⟨k,hk,rfl,rfl,rfl,hA,hB⟩:=hrel
    have HBW:=Lib.hid (below_then HB0.out hB.out HB0.out.size)
    have HKr:=Lib.hid (HK0.out.keep hB.out)
    by_cases hkn:k<nr
    ·have hki:(k:Int)<(nr:Int):=by omega
     have hkl:k<rs.length:=by rw [← HN.out]; exact hkn
     obtain⟨b,off,rfl,hc⟩:=rc_at (H.out.recs.keep HBW.out) (by omega)
     obtain⟨c0,c1,c2⟩:=hc k hkl
     have hsz:=H.out.wf rs[k] (List.getElem_mem hkl)
     unfold Rc.wf at hsz
     have HG:=Lib.hid (goodW_is tm bt rs k hkl)
     have HX:=Lib.hid (termAt_next bt rs k hkl)
     have HTL:=Lib.hid (termAt_last bt rs k (by omega))
     have hno:Hid (goodW tm bt rs k=false→v=false):=Lib.hid (fun h=>by rw [HV.out]; unfold rowsW; rw [not_range hkl h,Bool.false_and])
     have hyes:Hid (goodW tm bt rs k=true→∀ i,i<k+1→goodW tm bt rs i=true):=Lib.hid (fun h i hi=>by
      by_cases hik:i=k
      ·subst hik; exact h
      ·exact hA.out i (by omega))
     have HBr:=Lib.hid (HBW.out.alloc HBW.out.size (.cells #[.int .i64 rs[k].term,.int .i64 rs[k].kind,.string rs[k].data] 67))
     have HBq:=Lib.hid (hB.out.alloc hB.out.size (.cells #[.int .i64 rs[k].term,.int .i64 rs[k].kind,.string rs[k].data] 67))
     have ht0:=(HKr.out.alloc (.cells #[.int .i64 rs[k].term,.int .i64 rs[k].kind,.string rs[k].data] 67)).cell (j:=0) rfl
     clear hc
     generalize rs[k]=r at *
     obtain⟨rt,rk,rd⟩:=r
     obtain⟨T,hT⟩:∃ T,T=termAt bt rs k:=⟨_,rfl⟩
     have HTE:=Lib.hid hT
     rw [← hT]
     rw [← hT] at HTL
     clear hT
     dsimp only at *
     by_cases hg:termAt bt rs k≤rt∧rt≤tm∧0≤rk∧rk≤2∧rd.size≤8192
     ·have hA2:=Lib.hid (hyes.out (by rw [HG.out]; exact decide_eq_true hg))
      have hg2:=hg
      obtain⟨g1,g2,g3,g4,g5⟩:=hg2
      have e1:decide (T≤rt)=true:=decide_eq_true (by rw [HTE.out]; exact g1)
      have e2:=decide_eq_true g2
      have e5:decide (8192<(rd.size:Int))=false:=decide_eq_false (by omega)
      have HG1:=Lib.hid g1
      have e3:=decide_eq_true g3
      have e4:=decide_eq_true g4
      clear HG hno hyes hg g1 g2 g3 g4 g5
      go_wp2_with (go_at_call 116; refine (ww_any _ _ _ _).mono ?_; rintro e w' ⟨rfl,rfl⟩)
      go_roundg (nr - (k+1))
      case rel=>exact⟨k+1,by omega,rfl,by go_num,(by rw [HX.out]; congr 1; have h1:=HTL.out; have h2:=HTE.out; have h3:=HG1.out; omega),hA2,HBq⟩
      case measure=>omega
     ·obtain rfl:v=false:=hno.out (by rw [HG.out]; exact decide_eq_false hg)
      have HGN:=Lib.hid hg
      clear HG hno hyes hg HX
      go_wp2_with (go_at_call 116; refine (ww_any _ _ _ _).mono ?_; rintro e w' ⟨rfl,rfl⟩)
      all_goals first
       | (go_ret; exact⟨rfl,HBr.out⟩)
       | (exfalso; have h1:=HGN.out; have h2:=HTL.out; have h3:=HTE.out; omega)
    ·have hki:(nr:Int)≤(k:Int):=by omega
     have hvt:v=votersW vs:=by rw [HV.out]; unfold rowsW; rw [all_range (by rw [← HN.out]; omega) hA.out,Bool.true_and]
     have HVV:=Lib.hid hvt
     have hv4:=HKr.out.cell (j:=6) rfl
     clear hvt hA HV
     go_wp2_with fail
     clear hv4
     go_loopg [106] nv (fun gk i wr=>∃ k:Nat,k≤nv∧gk=nv - k∧i = .int .i64 (k:Int)∧Hid (∀ i,i<k→goodV vs i=true)∧Hid (Below W.heap.size W wr))
     case atStart=>exact⟨0,Nat.zero_le _,rfl,rfl,Lib.hid (fun i h=>absurd h (Nat.not_lt_zero _)),hB⟩
     case round =>
      clear hB HBW HKr
      obtain⟨k,hk,rfl,rfl,hA,hB⟩:=hrel
      have HBW:=Lib.hid (below_then HB0.out hB.out HB0.out.size)
      have HKr:=Lib.hid (HK0.out.keep hB.out)
      by_cases hkn:k<nv
      ·have hki:(k:Int)<(nv:Int):=by omega
       have hkl:k<vs.length:=by rw [← HNV.out]; exact hkn
       obtain⟨-,b,off,rfl,hc⟩:=(H.out.voters.keep HBW.out).i64 (by omega)
       have hno:Hid (goodV vs k=false→v=false):=Lib.hid (fun h=>by rw [HVV.out]; unfold votersW; exact not_range hkl h)
       have hyes:Hid (goodV vs k=true→∀ i,i<k+1→goodV vs i=true):=Lib.hid (fun h i hi=>by
        by_cases hik:i=k
        ·subst hik; exact h
        ·exact hA.out i (by omega))
       have hv4:=HKr.out.cell (j:=6) rfl
       rcases k with _ | j
       ·have c0:=hc 0 (by omega)
        have HG0:Hid (goodV vs 0=decide ((1:Int)≤vs[0]∧vs[0]≤9)):=Lib.hid (by rw [goodV_is vs 0 (by omega)]; simp)
        simp only [Nat.add_zero] at c0
        clear hc
        by_cases hx:(1:Int)≤vs[0]∧vs[0]≤9
        ·have hA2:=Lib.hid (hyes.out (by rw [HG0.out,decide_eq_true hx]))
         generalize vs[0]=x at *
         have e1:=decide_eq_true hx.1
         have e2:=decide_eq_true hx.2
         clear HG0 hno hyes hx
         go_wp2_with (go_at_call 116; refine (ww_any _ _ _ _).mono ?_; rintro e w' ⟨rfl,rfl⟩)
         go_roundg (nv - (0+1))
         case rel=>exact⟨0+1,by omega,rfl,by go_num,hA2,hB⟩
         case measure=>omega
        ·obtain rfl:v=false:=hno.out (by rw [HG0.out,decide_eq_false hx])
         generalize vs[0]=x at *
         have HGN:=Lib.hid hx
         clear HG0 hno hyes hx
         go_wp2_with (go_at_call 116; refine (ww_any _ _ _ _).mono ?_; rintro e w' ⟨rfl,rfl⟩)
         all_goals first
          | (go_ret; exact⟨rfl,HBW.out⟩)
          | (exfalso; have h1:=HGN.out; omega)
       ·have hjl:j<vs.length:=by omega
        have ck:=hc (j+1) hkl
        have cj:=hc j hjl
        have HG:Hid (goodV vs (j+1)=(decide ((1:Int)≤vs[j+1]∧vs[j+1]≤9)&&decide (vs[j]<vs[j+1]))):=Lib.hid (by rw [goodV_is vs (j+1) hkl]; simp)
        have hj0:(0:Int)<(j:Int)+1:=by omega
        have hj1:(j:Int)<(nv:Int):=by omega
        clear hc
        by_cases hx:(1:Int)≤vs[j+1]∧vs[j+1]≤9
        ·by_cases hx3:vs[j]<vs[j+1]
         ·have hA2:=Lib.hid (hyes.out (by rw [HG.out,decide_eq_true hx,decide_eq_true hx3]; rfl))
          generalize vs[j+1]=x at *
          generalize vs[j]=y at *
          have e1:=decide_eq_true hx.1
          have e2:=decide_eq_true hx.2
          have b3:decide (x≤y)=false:=decide_eq_false (by omega)
          clear HG hno hyes hx
          go_wp2_with (go_at_call 116; refine (ww_any _ _ _ _).mono ?_; rintro e w' ⟨rfl,rfl⟩)
          go_roundg (nv - (j+1+1))
          case rel=>exact⟨j+1+1,by omega,rfl,by go_num,hA2,hB⟩
          case measure=>omega
         ·obtain rfl:v=false:=hno.out (by rw [HG.out,decide_eq_false hx3,Bool.and_false])
          generalize vs[j+1]=x at *
          generalize vs[j]=y at *
          have e1:=decide_eq_true hx.1
          have e2:=decide_eq_true hx.2
          have b3:decide (x≤y)=true:=decide_eq_true (by omega)
          clear HG hno hyes hx
          go_wp2_with (go_at_call 116; refine (ww_any _ _ _ _).mono ?_; rintro e w' ⟨rfl,rfl⟩)
          go_ret
          exact⟨rfl,HBW.out⟩
        ·obtain rfl:v=false:=hno.out (by rw [HG.out,decide_eq_false hx,Bool.false_and])
         generalize vs[j+1]=x at *
         generalize vs[j]=y at *
         have HGN:=Lib.hid hx
         clear HG hno hyes hx
         go_wp2_with (go_at_call 116; refine (ww_any _ _ _ _).mono ?_; rintro e w' ⟨rfl,rfl⟩)
         all_goals first
          | (go_ret; exact⟨rfl,HBW.out⟩)
          | (exfalso; have h1:=HGN.out; omega)
      ·have hki:(nv:Int)≤(k:Int):=by omega
       have hvt:v=true:=by rw [HVV.out]; unfold votersW; exact all_range (by rw [← HNV.out]; omega) hA.out
       subst hvt
       go_wp2_with fail
       go_ret
       exact⟨rfl,HBW.out⟩
   )
 ·have hvf:v=false:=by rw [hv.out]; unfold shapedH; rw [decide_eq_false hh,Bool.false_and,Bool.false_and]
  subst hvf
  clear hv
  unfold headW headL at hh
  dsimp only at hh
  rw [← HN.out,← HNV.out] at hh
  have HH:=Lib.hid hh
  clear hh
  by_cases hb0:ba=0
  ·have e0:(ba==0)=true:=by simp [hb0]
   by_cases hb1:bt=0
   ·have e1:(bt==0)=true:=by simp [hb1]
    have HB01:=Lib.hid (And.intro hb0 hb1)
    clear hb0 hb1
    have hl0:=HL0.out.cell (j:=0) rfl
    have hl1:=HL0.out.cell (j:=1) rfl
    have hl2:=HL0.out.cell (j:=2) rfl
    have hk0:=HK0.out.cell (j:=0) rfl
    have hk1:=HK0.out.cell (j:=1) rfl
    have hk5:=HK0.out.cell (j:=5) rfl
    have hk6:=HK0.out.cell (j:=6) rfl
    go_enter Tryz.func66,Tryz.ntmps66
    go_wp2_with (go_at_call 116; refine (ww_any _ _ _ _).mono ?_; rintro e w' ⟨rfl,rfl⟩)
    all_goals first
     | (go_ret; exact⟨rfl,HB0.out⟩)
     | (exfalso; have h1:=HH.out; have h2:=HB01.out; omega)
   ·have e1:(bt==0)=false:=by simp [hb1]
    have HB01:=Lib.hid (And.intro hb0 hb1)
    clear hb0 hb1
    have hl0:=HL0.out.cell (j:=0) rfl
    have hl1:=HL0.out.cell (j:=1) rfl
    have hl2:=HL0.out.cell (j:=2) rfl
    have hk0:=HK0.out.cell (j:=0) rfl
    have hk1:=HK0.out.cell (j:=1) rfl
    have hk5:=HK0.out.cell (j:=5) rfl
    have hk6:=HK0.out.cell (j:=6) rfl
    go_enter Tryz.func66,Tryz.ntmps66
    go_wp2_with (go_at_call 116; refine (ww_any _ _ _ _).mono ?_; rintro e w' ⟨rfl,rfl⟩)
    all_goals first
     | (go_ret; exact⟨rfl,HB0.out⟩)
     | (exfalso; have h1:=HH.out; have h2:=HB01.out; omega)
  ·have e0:(ba==0)=false:=by simp [hb0]
   by_cases hb1:bt=0
   ·have e1:(bt==0)=true:=by simp [hb1]
    have HB01:=Lib.hid (And.intro hb0 hb1)
    clear hb0 hb1
    have hl0:=HL0.out.cell (j:=0) rfl
    have hl1:=HL0.out.cell (j:=1) rfl
    have hl2:=HL0.out.cell (j:=2) rfl
    have hk0:=HK0.out.cell (j:=0) rfl
    have hk1:=HK0.out.cell (j:=1) rfl
    have hk5:=HK0.out.cell (j:=5) rfl
    have hk6:=HK0.out.cell (j:=6) rfl
    go_enter Tryz.func66,Tryz.ntmps66
    go_wp2_with (go_at_call 116; refine (ww_any _ _ _ _).mono ?_; rintro e w' ⟨rfl,rfl⟩)
    all_goals first
     | (go_ret; exact⟨rfl,HB0.out⟩)
     | (exfalso; have h1:=HH.out; have h2:=HB01.out; omega)
   ·have e1:(bt==0)=false:=by simp [hb1]
    have HB01:=Lib.hid (And.intro hb0 hb1)
    clear hb0 hb1
    have hl0:=HL0.out.cell (j:=0) rfl
    have hl1:=HL0.out.cell (j:=1) rfl
    have hl2:=HL0.out.cell (j:=2) rfl
    have hk0:=HK0.out.cell (j:=0) rfl
    have hk1:=HK0.out.cell (j:=1) rfl
    have hk5:=HK0.out.cell (j:=5) rfl
    have hk6:=HK0.out.cell (j:=6) rfl
    go_enter Tryz.func66,Tryz.ntmps66
    go_wp2_with (go_at_call 116; refine (ww_any _ _ _ _).mono ?_; rintro e w' ⟨rfl,rfl⟩)
    all_goals first
     | (go_ret; exact⟨rfl,HB0.out⟩)
     | (exfalso; have h1:=HH.out; have h2:=HB01.out; omega)
end Go.Proofs.YtlpgbmaoenncjaaGreatDoor

/-
  The walk of the reference's Change: the body of a change, and whether it fits.
-/
import Derived.Test.YtlpgbmaoenncjaaGreatDoorWsG
import Derived.Test.YtlpgbmaoenncjaaGreatDoorWsF
import Derived.Test.YtlpgbmaoenncjaaGreatDoorWsOne
namespace Go.Proofs.YtlpgbmaoenncjaaGreatDoor
open Go.RowKit
set_option linter.unusedVariables false
set_option maxRecDepth 100000
theorem sameN_stop:∀ (k:Nat) (a b:List Rc),a.take k=b.take k→k≤a.length→k≤b.length→(∀ (h1:k<a.length) (h2:k<b.length),a[k]≠b[k])→sameN a b=k
 | 0,[],b,_,_,_,_=>by simp [sameN]
 | 0,x :: a,[],_,_,_,_=>by simp [sameN]
 | 0,x :: a,y :: b,_,_,_,h=>by
   have h1:=h (by simp) (by simp)
   unfold sameN
   rw [if_neg (by simpa using h1)]
 | k+1,[],b,_,h,_,_=>by simp at h
 | k+1,x :: a,[],_,_,h,_=>by simp at h
 | k+1,x :: a,y :: b,ht,ha,hb,h=>by
   rw [List.take_succ_cons,List.take_succ_cons] at ht
   obtain⟨h1,h2⟩:=List.cons.inj ht
   unfold sameN
   rw [if_pos h1,sameN_stop k a b h2 (by simpa using ha) (by simpa using hb) (fun h3 h4 he=>h (Nat.succ_lt_succ h3) (Nat.succ_lt_succ h4) he)]
theorem take_more {a b:List Rc}{k:Nat}(h:a.take k=b.take k) (ha:k<a.length) (hb:k<b.length) (he:a[k]=b[k]):a.take (k+1)=b.take (k+1):=by
 rw [List.take_succ_eq_append_getElem ha,List.take_succ_eq_append_getElem hb,h,he]
theorem changeV_small {old now:Hd}(ho:rightH old=true) (hr:rightH now=true):(changeV old now).cnt≤4611686018427387904∧(putL (changeV old now)).length≤140737488355328:=by
 obtain⟨⟨k1,k2,⟨k3,k4,k5,k6,-,k7,k8⟩,k9,k10⟩,hv,hc⟩:=shaped_in (rightH_shaped hr)
 have hl:(now.recs.drop (sameN old.recs now.recs)).length≤200:=by rw [List.length_drop]; omega
 have hn:=sameN_le old.recs now.recs
 constructor
 ·unfold changeV
  rw [listV_cnt]
  simp only [cntAll,numV_cnt]
  have:=recsV_cnt (now.recs.drop (sameN old.recs now.recs))
  omega
 ·unfold changeV
  rw [listV_len]
  simp only [putAll,List.length_append,List.length_nil]
  have e0:=numV_len (n:=now.term) (by omega) (by omega)
  have e1:=numV_len (n:=now.vote) (by omega) (by omega)
  have e2:=numV_len (n:=now.base+(sameN old.recs now.recs:Int)) (by omega) (by omega)
  have e3:=recsV_len (l:=now.recs.drop (sameN old.recs now.recs)) (fun x hx=>by have:=hc x (List.mem_of_mem_drop hx); exact⟨⟨⟨by omega,by omega⟩,⟨by omega,by omega⟩⟩,by omega⟩)
  omega
def fitsG (g:ByteArray × Int):Bool:=decide (g.2=0)&&decide (g.1.size≤65536)
set_option maxHeartbeats 4000000 in
theorem rchange_any (old now:Hd) (ar:Option Addr) (nr cr:Nat) (av:Option Addr) (nv cv:Nat) (ar1:Option Addr) (nr1 cr1:Nat) (av1:Option Addr) (nv1 cv1:Nat) (w:World) (H:HdAt w old ar nr cr av nv cv) (H1:HdAt w now ar1 nr1 cr1 av1 nv1 cv1)
 (htab:Lib.TabIs Tryz.prog w "internal/strconv.uint64pow10" .u64 Lib.pow10Tab) (ho:rightH old=true) (hr:rightH now=true) (g:ByteArray × Int) (hg:Hid (g=putGot (changeV old now))) :
 Calls Tryz.prog 60 #[old.val ar nr cr av nv cv,now.val ar1 nr1 cr1 av1 nv1 cv1] w fun e w'=>e = .returned (.tuple #[.string g.1,.bool (fitsG g)])∧Below w.heap.size w w':=by
 have HT:=Lib.hid (Lib.tabBelow_of_tabIs htab)
 have HPT:Hid (∀ W cs,Below w.heap.size w W→V.At W (fun p=>p<W.heap.size) (changeV old now) cs→Calls Tryz.prog 39 #[.agg cs.toArray] W (fun e w'=>e = .returned (.tuple #[.string g.1,.int .i64 g.2])∧Below W.heap.size W w')) :=
  Lib.hid fun W cs hb hat=>rput_any (fun p=>p<W.heap.size) (changeV old now) cs W (fun _ h=>h) hat (changeV_small ho hr).1 (changeV_inR ho hr) (changeV_small ho hr).2 (HT.out _ hb) g hg
 obtain⟨-,hlg⟩:=right_log hr
 obtain⟨hlb,-⟩:=right_log hr
 have hbad:g.2≠0→g.1=⟨#[]⟩:=fun h=>by rw [hg.out] at h ⊢; exact putGot_bad h
 have hr2:nr1≤200:=by have:=(shaped_in (rightH_shaped hr)).1.2.2.1.2.2.2.2.2.1; rw [← H1.rlen] at this; exact this
 have hr1:nr≤200:=by have:=(shaped_in (rightH_shaped ho)).1.2.2.1.2.2.2.2.2.1; rw [← H.rlen] at this; exact this
 have hcap:=H1.cap
 have HN:=Lib.hid H.rlen
 have HN1:=Lib.hid H1.rlen
 have HCH:Hid (changeV old now=listV [numV now.term,numV now.vote,numV (now.base+(sameN old.recs now.recs:Int)),listV ((now.recs.drop (sameN old.recs now.recs)).map recV)]):=Lib.hid rfl
 have HLG:=Lib.hid (And.intro hlb hlg)
 rw [HCH.out] at HPT
 clear hg ho hr HCH htab
 obtain⟨tm,vt,bs,bt,rs,sn,vs⟩:=old
 obtain⟨tm1,vt1,bs1,bt1,rs1,sn1,vs1⟩:=now
 unfold Hd.val
 dsimp only at *
 have HR:=Lib.hid (show rcE.Sl w ar nr rs from H.recs)
 have HR1:=Lib.hid (show rcE.Sl w ar1 nr1 rs1 from H1.recs)
 clear H H1 hlb hlg hbad
 obtain⟨P1,P2⟩:=g
 dsimp only at *
 have HA1:=Lib.hid ((Below.refl w.heap.size w).alloc (Nat.le_refl _) (.cells #[.int .i64 tm,.int .i64 vt,.int .i64 bs,.int .i64 bt,.slice ar nr cr,.string sn,.slice av nv cv] 42))
 have HA2:=Lib.hid (HA1.out.alloc HA1.out.size (.cells #[.int .i64 tm1,.int .i64 vt1,.int .i64 bs1,.int .i64 bt1,.slice ar1 nr1 cr1,.string sn1,.slice av1 nv1 cv1] 42))
 have HX6:Hid (Blk ((w.alloc (.cells #[.int .i64 tm,.int .i64 vt,.int .i64 bs,.int .i64 bt,.slice ar nr cr,.string sn,.slice av nv cv] 42)).alloc (.cells #[.int .i64 tm1,.int .i64 vt1,.int .i64 bs1,.int .i64 bt1,.slice ar1 nr1 cr1,.string sn1,.slice av1 nv1 cv1] 42)) w.heap.size 42 [.int .i64 tm,.int .i64 vt,.int .i64 bs,.int .i64 bt,.slice ar nr cr,.string sn,.slice av nv cv]):=Lib.hid (Blk.alloc (heap_alloc_new w _) _)
 have HX7:Hid (Blk ((w.alloc (.cells #[.int .i64 tm,.int .i64 vt,.int .i64 bs,.int .i64 bt,.slice ar nr cr,.string sn,.slice av nv cv] 42)).alloc (.cells #[.int .i64 tm1,.int .i64 vt1,.int .i64 bs1,.int .i64 bt1,.slice ar1 nr1 cr1,.string sn1,.slice av1 nv1 cv1] 42)) (w.heap.size+1) 42 [.int .i64 tm1,.int .i64 vt1,.int .i64 bs1,.int .i64 bt1,.slice ar1 nr1 cr1,.string sn1,.slice av1 nv1 cv1]):=Lib.hid (by
  have hz:=heap_alloc_new (w.alloc (.cells #[.int .i64 tm,.int .i64 vt,.int .i64 bs,.int .i64 bt,.slice ar nr cr,.string sn,.slice av nv cv] 42)) (.cells #[.int .i64 tm1,.int .i64 vt1,.int .i64 bs1,.int .i64 bt1,.slice ar1 nr1 cr1,.string sn1,.slice av1 nv1 cv1] 42)
  rw [World.size_alloc] at hz
  exact hz)
 have x0:=HX6.out.cell (j:=0) rfl; have x1:=HX6.out.cell (j:=1) rfl; have x2:=HX6.out.cell (j:=2) rfl; have x3:=HX6.out.cell (j:=3) rfl; have x4:=HX6.out.cell (j:=4) rfl; have x5:=HX6.out.cell (j:=5) rfl; have x6:=HX6.out.cell (j:=6) rfl
 have y0:=HX7.out.cell (j:=0) rfl; have y1:=HX7.out.cell (j:=1) rfl; have y2:=HX7.out.cell (j:=2) rfl; have y3:=HX7.out.cell (j:=3) rfl; have y4:=HX7.out.cell (j:=4) rfl; have y5:=HX7.out.cell (j:=5) rfl; have y6:=HX7.out.cell (j:=6) rfl
 go_enter Tryz.func60,Tryz.ntmps60
 go_wp2_with fail
 go_loopg [6] nr (fun gk v6 wr=>∃ k:Nat,k≤nr∧k≤nr1∧gk=nr - k∧v6 = .int .i64 (k:Int)∧Hid (Below w.heap.size w wr)∧Hid (Blk wr (w.heap.size+1) 42 [.int .i64 tm1,.int .i64 vt1,.int .i64 bs1,.int .i64 bt1,.slice ar1 nr1 cr1,.string sn1,.slice av1 nv1 cv1])∧Hid (rs.take k=rs1.take k))
 case atStart=>exact⟨0,Nat.zero_le _,Nat.zero_le _,rfl,rfl,HA2,HX7,Lib.hid (by rw [List.take_zero,List.take_zero])⟩
 case round =>
  clear x0 y0 x1 y1 x2 y2 x3 y3 x4 y4 x5 y5 x6 y6
  obtain⟨k,hk,hk1,rfl,rfl,hW,HY6,hT⟩:=hrel
  by_cases hgo:∃ (h1:k<rs.length) (h2:k<rs1.length),rs[k]=rs1[k]
  ·obtain⟨h1,h2,he⟩:=hgo
   have hkn:k<nr:=by rw [HN.out]; exact h1
   have hkn1:k<nr1:=by rw [HN1.out]; exact h2
   have hki:(k:Int)<(nr:Int):=by omega
   have hki1:(k:Int)<(nr1:Int):=by omega
   obtain⟨b,off,rfl,hc⟩:=rc_at (HR.out.keep hW.out) (by omega)
   obtain⟨b',off',rfl,hc'⟩:=rc_at (HR1.out.keep hW.out) (by omega)
   obtain⟨d0,d1,d2⟩:=hc k h1
   obtain⟨f0,f1,f2⟩:=hc' k h2
   have HT2:=Lib.hid (take_more hT.out h1 h2 he)
   rw [← he] at f0 f1 f2
   have hef:=eqRec_any rs[k] rs[k]
   rw [decide_eq_true rfl] at hef
   clear hc hc' he hT
   generalize rs[k]=r at *
   obtain⟨rt,rk,rd⟩:=r
   dsimp only at *
   go_wp2_with fail
   go_quiet (fail)
   go_wp2_with fail
   go_roundg (nr - (k+1))
   case rel=>exact⟨k+1,by omega,by omega,rfl,by go_num,Lib.hid (below_drewN hW.out _),Lib.hid (HY6.out.keep (below_drewN (Below.refl _ _) _)),HT2⟩
   case measure=>omega
  ·have hS:sameN rs rs1=k:=sameN_stop k rs rs1 hT.out (by have:=HN.out; omega) (by have:=HN1.out; omega) (fun h1 h2 he=>hgo ⟨h1,h2,he⟩)
   have HS:=Lib.hid hS
   rw [hS] at HPT
   obtain⟨sr,HCUT,hRS⟩:=cut_recs (k:=k) HN1.out hk1 hcap HR1.out
   have HCUT:=Lib.hid HCUT
   have HRS2:=Lib.hid (fun W hb=>hRS W (HR1.out.keep hb))
   have hwz:IntKind.i64.wrap (bs1+(k:Int))=bs1+(k:Int):=by have:=HLG.out; have:=HN1.out; rw [IntKind.wrap_i64]; omega
   have HAD:=Lib.hid hwz
   have fin:∀ (W:World),Below w.heap.size w W→True:=fun _ _=>trivial
   have h3:(∃ (h1:k<rs.length) (h2:k<rs1.length),rs[k]≠rs1[k])∨nr=k∨(k<nr∧nr1=k):=by
    by_cases e1:nr=k
    ·exact .inr (.inl e1)
    ·by_cases e2:nr1=k
     ·exact .inr (.inr ⟨by omega,e2⟩)
     ·have e3:=HN.out; have e4:=HN1.out
      exact .inl ⟨by omega,by omega,fun he=>hgo ⟨by omega,by omega,he⟩⟩
   clear hS hT hwz hRS hgo
   rcases h3 with ⟨h1,h2,hne⟩ | e1 | ⟨e1,e2⟩
   case' neg.inl =>
    have hkn:k<nr:=by rw [HN.out]; exact h1
    have hkn1:k<nr1:=by rw [HN1.out]; exact h2
    have hki:(k:Int)<(nr:Int):=by omega
    have hki1:(k:Int)<(nr1:Int):=by omega
    obtain⟨b,off,rfl,hc⟩:=rc_at (HR.out.keep hW.out) (by omega)
    obtain⟨b',off',rfl,hc'⟩:=rc_at (HR1.out.keep hW.out) (by omega)
    obtain⟨d0,d1,d2⟩:=hc k h1
    obtain⟨f0,f1,f2⟩:=hc' k h2
    have hef:=eqRec_any rs[k] rs1[k]
    rw [decide_eq_false hne] at hef
    clear hc hc' hne
    generalize rs[k]=r at *
    generalize rs1[k]=s at *
    obtain⟨rt,rk,rd⟩:=r
    obtain⟨st,sk,sd⟩:=s
    dsimp only at d0 d1 d2 f0 f1 f2 hef
    go_wp2_with fail
    go_quiet (fail)
    go_wp2_with fail
    generalize (some ⟨b',off',none⟩:Option Addr)=ar1 at *
   case' neg.inr.inl =>
    have hki:(nr:Int)≤(k:Int):=by omega
    go_wp2_with fail
    go_quiet (fail)
    go_wp2_with fail
   case' neg.inr.inr =>
    have hki:(k:Int)<(nr:Int):=by omega
    have hki1:(nr1:Int)≤(k:Int):=by omega
    go_wp2_with fail
    go_quiet (fail)
    go_wp2_with fail
   all_goals (
    have HBQ:=Lib.hid (show Below wr.heap.size wr (wr.drewN nq) from below_drewN (Below.refl _ _) nq)
    have HWQ:=Lib.hid (show Below w.heap.size w (wr.drewN nq) from below_drewN hW.out nq)
    have HY6:=Lib.hid (HY6.out.keep HBQ.out)
    clear hW HBQ
    generalize wr.drewN nq=wq at *
    have HRS:=Lib.hid (HRS2.out wq HWQ.out)
    have HPUT:Hid (∀ W cs,Below wq.heap.size wq W→V.At W (fun p=>p<W.heap.size) (listV [numV tm1,numV vt1,numV (bs1+(k:Int)),listV ((rs1.drop k).map recV)]) cs→Calls Tryz.prog 39 #[.agg cs.toArray] W (fun e w'=>e = .returned (.tuple #[.string P1,.int .i64 P2])∧Below W.heap.size W w')) :=
     Lib.hid fun W cs hb hat=>HPT.out W cs (below_then HWQ.out hb HWQ.out.size) hat
    clear HPT HRS2 HR HR1
    obtain⟨M,hM⟩:∃ M,M=bs1+(k:Int):=⟨_,rfl⟩
    have HAD:=Lib.hid (HAD.out.trans hM.symm)
    rw [← hM] at HPUT
    clear hM
    refine wp_region_set (regOf Tryz.f60 6) [some 41,some 42,some 43,some 44,some 45,some 46,some 47,some 48,some 49,some 50,some 51,some 52,some 53,some 54,some 55,some 56,some 57,some 58,some 59,some 40,some 60,some 61,some 9,some 10] (rcgT (w.heap.size+1) 0 tm1 vt1 bs1 k M ar1 nr1 cr1 sr (nr1 - k) (cr1 - k) (rs1.drop k) P1 P2 wq) (fun w'=>Below wq.heap.size wq w') rcgD (by kernel_rfl) (by kernel_rfl) (by kernel_rfl) (by kernel_rfl) (by kernel_rfl) ((Below.refl _ _).drew)
     (rcg_steps (w.heap.size+1) 0 tm1 vt1 bs1 k M ar1 nr1 cr1 sr (nr1 - k) (cr1 - k) (rs1.drop k) P1 P2 wq (lt_of_block HY6.out) (HY6.out.cell (j:=0) rfl) (HY6.out.cell (j:=1) rfl) (HY6.out.cell (j:=2) rfl) HAD.out HCUT.out HRS.out (by omega) HPUT.out (by kernel_rfl) (by kernel_rfl) (by kernel_rfl) (by kernel_rfl)) ?_
    intro vs w9 hn hCw9 hT
    replace hn:vs.length=24:=hn
    obtain⟨v0,vs1,rfl,hn1⟩:=len_cons hn
    obtain⟨v1,vs2,rfl,hn2⟩:=len_cons hn1
    obtain⟨v2,vs3,rfl,hn3⟩:=len_cons hn2
    obtain⟨v3,vs4,rfl,hn4⟩:=len_cons hn3
    obtain⟨v4,vs5,rfl,hn5⟩:=len_cons hn4
    obtain⟨v5,vs6,rfl,hn6⟩:=len_cons hn5
    obtain⟨v6,vs7,rfl,hn7⟩:=len_cons hn6
    obtain⟨v7,vs8,rfl,hn8⟩:=len_cons hn7
    obtain⟨v8,vs9,rfl,hn9⟩:=len_cons hn8
    obtain⟨v9,vs10,rfl,hn10⟩:=len_cons hn9
    obtain⟨v10,vs11,rfl,hn11⟩:=len_cons hn10
    obtain⟨v11,vs12,rfl,hn12⟩:=len_cons hn11
    obtain⟨v12,vs13,rfl,hn13⟩:=len_cons hn12
    obtain⟨v13,vs14,rfl,hn14⟩:=len_cons hn13
    obtain⟨v14,vs15,rfl,hn15⟩:=len_cons hn14
    obtain⟨v15,vs16,rfl,hn16⟩:=len_cons hn15
    obtain⟨v16,vs17,rfl,hn17⟩:=len_cons hn16
    obtain⟨v17,vs18,rfl,hn18⟩:=len_cons hn17
    obtain⟨v18,vs19,rfl,hn19⟩:=len_cons hn18
    obtain⟨v19,vs20,rfl,hn20⟩:=len_cons hn19
    obtain⟨v20,vs21,rfl,hn21⟩:=len_cons hn20
    obtain⟨v21,vs22,rfl,hn22⟩:=len_cons hn21
    obtain⟨v22,vs23,rfl,hn23⟩:=len_cons hn22
    obtain⟨v23,vs24,rfl,hn24⟩:=len_cons hn23
    obtain rfl:=List.eq_nil_of_length_eq_zero hn24
    clear hn hn1 hn2 hn3 hn4 hn5 hn6 hn7 hn8 hn9 hn10 hn11 hn12 hn13 hn14 hn15 hn16 hn17 hn18 hn19 hn20 hn21 hn22 hn23 hn24
    obtain rfl:v0 = .pointer (some ⟨(w.heap.size+1),0,none⟩):=hT 0 v0 rfl (by kernel_rfl)
    obtain rfl:v1 = .int .i64 tm1:=hT 1 v1 rfl (by kernel_rfl)
    obtain rfl:v2 = .agg #[.int .i64 1,.int .i64 tm1,.string ⟨#[]⟩,.slice none 0 0]:=hT 2 v2 rfl (by kernel_rfl)
    obtain rfl:v3 = .pointer (some ⟨(w.heap.size+1),1,none⟩):=hT 3 v3 rfl (by kernel_rfl)
    obtain rfl:v4 = .int .i64 vt1:=hT 4 v4 rfl (by kernel_rfl)
    obtain rfl:v5 = .agg #[.int .i64 1,.int .i64 vt1,.string ⟨#[]⟩,.slice none 0 0]:=hT 5 v5 rfl (by kernel_rfl)
    obtain rfl:v6 = .pointer (some ⟨(w.heap.size+1),2,none⟩):=hT 6 v6 rfl (by kernel_rfl)
    obtain rfl:v7 = .pointer (some ⟨(w.heap.size+1),2,none⟩):=hT 7 v7 rfl (by kernel_rfl)
    obtain rfl:v8 = .int .i64 bs1:=hT 8 v8 rfl (by kernel_rfl)
    obtain rfl:v9 = .int .i64 (k:Int):=hT 9 v9 rfl (by kernel_rfl)
    obtain rfl:v10 = .int .i64 M:=hT 10 v10 rfl (by kernel_rfl)
    obtain rfl:v11 = .agg #[.int .i64 1,.int .i64 M,.string ⟨#[]⟩,.slice none 0 0]:=hT 11 v11 rfl (by kernel_rfl)
    obtain rfl:v12 = .slice ar1 nr1 cr1:=hT 12 v12 rfl (by kernel_rfl)
    obtain rfl:v13 = .int .i64 (k:Int):=hT 13 v13 rfl (by kernel_rfl)
    obtain rfl:v14 = .slice sr (nr1 - k) (cr1 - k):=hT 14 v14 rfl (by kernel_rfl)
    have t15:=Lib.hid (hT 15 v15 rfl (by kernel_rfl))
    have t16:=Lib.hid (hT 16 v16 rfl (by kernel_rfl))
    have t17:=Lib.hid (hT 17 v17 rfl (by kernel_rfl))
    obtain rfl:v18 = .tuple #[.string P1,.int .i64 P2]:=hT 18 v18 rfl (by kernel_rfl)
    obtain rfl:v19 = .tuple #[.string P1,.int .i64 P2]:=hT 19 v19 rfl (by kernel_rfl)
    obtain rfl:v20 = .string P1:=hT 20 v20 rfl (by kernel_rfl)
    obtain rfl:v21 = .int .i64 P2:=hT 21 v21 rfl (by kernel_rfl)
    obtain rfl:v22 = .string P1:=hT 22 v22 rfl (by kernel_rfl)
    obtain rfl:v23 = .int .i64 P2:=hT 23 v23 rfl (by kernel_rfl)
    clear hT
    simp only [puts,Act.put,List.setIfInBounds_toArray,List.set_cons_succ,List.set_cons_zero]
    have HW9:=Lib.hid (below_then HWQ.out hCw9 HWQ.out.size)
    clear hCw9 HWQ HY6 HAD HCUT HRS HPUT t15 t16 t17
    by_cases hp:P2=0
    ·subst hp
     by_cases hs:P1.size≤65536
     ·have hsi:(P1.size:Int)≤65536:=by omega
      have HV:Hid (fitsG (P1,0)=true):=Lib.hid (by unfold fitsG; simp; omega)
      clear hs
      go_wp2_with fail
      go_ret2
      exact⟨by rw [HV.out]; rfl,HW9.out⟩
     ·have hsi:(65536:Int)<(P1.size:Int):=by omega
      have HV:Hid (fitsG (P1,0)=decide ((P1.size:Int)≤65536)):=Lib.hid (by unfold fitsG; rw [decide_eq_false (show ¬ (P1.size:Int)≤65536 by omega)]; simp; omega)
      clear hs
      go_wp2_with fail
      go_ret2
      exact⟨by rw [HV.out]; rfl,HW9.out⟩
    ·have hp0:(P2==0)=false:=by simpa using hp
     have HV:Hid (fitsG (P1,P2)=false):=Lib.hid (by unfold fitsG; simp [hp])
     clear hp
     go_wp2_with fail
     go_ret2
     exact⟨by rw [HV.out]; rfl,HW9.out⟩)
end Go.Proofs.YtlpgbmaoenncjaaGreatDoor

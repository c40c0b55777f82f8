/-
  The walks of find, ready and of what they call, and of the reference's At: new blocks alone are made; the texts within reach.
  The walks of ready, Clone, done's sisters, Read and Cut: new blocks alone are made; the texts within reach.
  The walks of slices.Clone of files, and of Read: new blocks alone are made; the texts within reach.
  The walk of Cut: new blocks alone are made; the texts within reach.
  The walk of Crash: new blocks alone are made; the texts within reach.
  The walk of done: what it makes, told what the function values make; what is not theirs is kept.
  The function values of Sync, and done as a whole; what is not theirs is kept.
  The walk of Sync: what it makes of any disk; new blocks alone are made; the texts within reach.
-/
import Derived.Test.YtlpgbmaoenncjaaGreatDoorDkOne
import Derived.Test.YtlpgbmaoenncjaaGreatDoorGen
import Derived.Laws.ResultCell
import Derived.RegionTactic
import Derived.BigRegion
import Derived.Shelf.Abstract
namespace Go.Proofs.YtlpgbmaoenncjaaGreatDoor
open Go.RowKit Go.BigFrame
set_option linter.unusedVariables false
set_option maxRecDepth 100000
set_option maxHeartbeats 400000 in
theorem notName_any (s:ByteArray) (hs:s.size≤maxLen) (w:World) (v:Bool) (hv:Hid (v=!nmOk s)) :
 Calls Tryz.prog 164 #[.string s] w fun e w'=>e = .returned (.bool v)∧w=w':=by
 have H:=Lib.hid (isName_any s hs w (!v) (Lib.hid (by rw [hv.out,Bool.not_not])))
 clear hv
 go_enter Tryz.func164,Tryz.ntmps164
 go_wp2_with fail
 refine H.out.mono ?_
 rintro e w1 ⟨rfl,rfl⟩
 go_wp2_with fail
 go_ret
 exact⟨ret_bool (by simp),rfl⟩
theorem names_upto {nms:List ByteArray}(h:∀ j (h:j<nms.length),nmOk nms[j]=true):nms.all nmOk=true:=by
 rw [List.all_eq_true]
 intro o ho
 obtain⟨i,hi,rfl⟩:=List.getElem_of_mem ho
 exact h i hi
theorem names_not {nms:List ByteArray}{k:Nat}(hk:k<nms.length) (h:nmOk nms[k]=false):nms.all nmOk=false:=by
 rw [List.all_eq_false]
 exact⟨nms[k],List.getElem_mem hk,by rw [h]; decide⟩
theorem SlAt.at' {w:World}{a:Option Addr}{n:Nat}{nms:List ByteArray}(h:SlAt w a n (nms.map Value.string)):n=nms.length∧(0<n→∃ b off,a=some ⟨b,off,none⟩∧∀ i (h:i<nms.length),w.cell? ⟨b,off+i,none⟩=some (.string nms[i])):=by
 have hl:n=nms.length:=by have:=h.1; rwa [List.length_map] at this
 refine⟨hl,fun h0=>?_⟩
 rcases h.2 with h1 | ⟨b,off,h2,h3⟩
 ·have:=congrArg List.length h1; simp at this; subst this; simp at hl; omega
 ·exact⟨b,off,h2,fun i hi=>by have:=h3 i (by simpa using hi); simpa using this⟩
set_option maxHeartbeats 1000000 in
theorem namesIdx_any (a:Option Addr) (n c:Nat) (nms:List ByteArray) (w:World) (h:SlAt w a n (nms.map Value.string)) (hn:n≤9223372036854775807) (hs:∀ s∈nms,s.size≤maxLen) :
 Calls Tryz.prog 186 #[.slice a n c,.func (.func 164) #[] #[]] w fun e w'=>∃ r:Int,e = .returned (.int .i64 r)∧((r = -1∧nms.all nmOk=true)∨(0≤r∧nms.all nmOk=false))∧w=w':=by
 obtain⟨hnl,hat⟩:=h.at'
 have HN:=Lib.hid hnl
 have HAT:=Lib.hid hat
 have HS:=Lib.hid hs
 clear h hnl hat hs
 go_enter Tryz.func186,Tryz.ntmps186
 go_wp2
 go_loopg [5,8] n (fun gk v5 i wr=>∃ (k:Nat),k≤n∧gk=n - k∧i = .int .i64 (k:Int)∧w=wr∧Hid (∀ j (h:j<nms.length),j<k→nmOk nms[j]=true))
 case atStart=>exact⟨0,Nat.zero_le _,rfl,rfl,rfl,Lib.hid (fun j h hj=>absurd hj (Nat.not_lt_zero _))⟩
 case round =>
  obtain⟨k,hk,rfl,rfl,rfl,hall⟩:=hrel
  by_cases hlt:k<n
  ·have hkd:k<nms.length:=by rw [← HN.out]; exact hlt
   obtain⟨b,off,rfl,hcells⟩:=HAT.out (by omega)
   have c0:=hcells k hkd
   have hki:(k:Int)<(n:Int):=by omega
   have hop:=Lib.hid (fun (v:Bool) (hv:Hid (v=!nmOk nms[k]))=>notName_any nms[k] (HS.out _ (List.getElem_mem hkd)) w v hv)
   clear hcells
   cases hok:nmOk nms[k] with
   | true =>
     have hc:=Lib.hid (hop.out false (Lib.hid (by rw [hok]; rfl)))
     have hall2:Hid (∀ j (h:j<nms.length),j<k+1→nmOk nms[j]=true):=Lib.hid fun j h hj=>by
      by_cases hjk:j=k
      ·subst hjk; exact hok
      ·exact hall.out j h (by omega)
     clear hop hall hok
     generalize nms[k]=o at *
     go_wp2_with fail
     refine hc.out.mono ?_
     rintro e w1 ⟨rfl,rfl⟩
     go_wp2_with fail
     go_roundg (n - (k+1))
     case rel=>exact⟨k+1,by omega,rfl,by go_num,rfl,hall2⟩
     case measure=>omega
   | false =>
     have hfin:=Lib.hid (names_not hkd hok)
     have hc:=Lib.hid (hop.out true (Lib.hid (by rw [hok]; rfl)))
     clear hop hall hok
     generalize nms[k]=o at *
     go_wp2_with fail
     refine hc.out.mono ?_
     rintro e w1 ⟨rfl,rfl⟩
     go_wp2_with fail
     go_ret
     exact⟨k,rfl,.inr ⟨by omega,hfin.out⟩,rfl⟩
  ·have hfin:=Lib.hid (names_upto (nms:=nms) (fun j h=>hall.out j h (by have:=HN.out; omega)))
   have hki:(n:Int)≤(k:Int):=by omega
   go_wp2_with fail
   go_ret
   exact⟨-1,rfl,.inl ⟨rfl,hfin.out⟩,rfl⟩
set_option maxHeartbeats 400000 in
theorem badName_any (a:Option Addr) (n c:Nat) (nms:List ByteArray) (w:World) (h:SlAt w a n (nms.map Value.string)) (hn:n≤9223372036854775807) (hs:∀ s∈nms,s.size≤maxLen) (v:Bool) (hv:Hid (v=!nms.all nmOk)) :
 Calls Tryz.prog 163 #[.slice a n c,.func (.func 164) #[] #[]] w fun e w'=>e = .returned (.bool v)∧w=w':=by
 have H:=Lib.hid (namesIdx_any a n c nms w h hn hs)
 clear h hn hs
 go_enter Tryz.func163,Tryz.ntmps163
 go_wp2_with fail
 refine H.out.mono ?_
 rintro e w1 ⟨r,rfl,hr,rfl⟩
 rcases hr with ⟨rfl,hall⟩ | ⟨hr,hall⟩
 ·have HV:=Lib.hid (show v=false by rw [hv.out,hall]; rfl)
  clear hall hv
  go_wp2_with fail
  go_ret
  exact⟨ret_bool (by rw [HV.out]),rfl⟩
 ·have HV:=Lib.hid (show v=true by rw [hv.out,hall]; rfl)
  clear hall hv
  go_wp2_with fail
  go_ret
  exact⟨ret_bool (by rw [HV.out]),rfl⟩
theorem toList_yes {a b:ByteArray}(h:a=b):(a.toList==b.toList)=true:=by subst h; simp
set_option maxHeartbeats 400000 in
theorem isFile_any (f:Fl) (nm:ByteArray) (B:Nat) (w:World) (hB:w.cell? ⟨B,0,none⟩=some (.string nm)) (v:Bool) (hv:Hid ((f.nm.toList==nm.toList)=v)) :
 Calls Tryz.prog 165 #[.agg #[.string f.nm,.string f.sy,.string f.ta],.pointer (some ⟨B,0,none⟩)] w fun e w'=>e = .returned (.bool v)∧Below w.heap.size w w':=by
 obtain⟨x,y,z⟩:=f
 have hv:(x.toList==nm.toList)=v:=hv.out
 have g:=cell_keep ((Below.refl w.heap.size w).alloc (Nat.le_refl _) (.cells #[.string x,.string y,.string z] 55)) hB
 have hne:B≠w.heap.size:=fun e=>by
  subst e
  unfold World.cell? at hB
  simp at hB
 go_enter Tryz.func165,Tryz.ntmps165
 go_wp2
 go_ret
 exact⟨rfl,(Below.refl _ _).alloc (Nat.le_refl _) _⟩
theorem atL_hit {l:List Fl}{nm:ByteArray}{k:Nat}(hk:k<l.length) (h:l[k].nm=nm) (hj:∀ j (h:j<l.length),j<k→l[j].nm≠nm):(k:Int)=atL l nm:=by
 rcases atL_cases l nm with ⟨i,hi,h1,h2,h3⟩ | ⟨h1,h2⟩
 ·rw [h3]
  have:¬ i<k:=fun e=>hj i hi e h1
  have:¬ k<i:=fun e=>h2 k hk e h
  omega
 ·exact absurd h (h1 _ (List.getElem_mem hk))
theorem atL_miss {l:List Fl}{nm:ByteArray}(h:∀ j (h:j<l.length),l[j].nm≠nm):-1=atL l nm:=by
 rcases atL_cases l nm with ⟨i,hi,h1,h2,h3⟩ | ⟨h1,h2⟩
 ·exact absurd h1 (h i hi)
 ·exact h2.symm
set_option maxHeartbeats 1000000 in
theorem filesIdx_any (a:Option Addr) (n c:Nat) (l:List Fl) (nm:ByteArray) (B:Nat) (w:World) (h:flE.Sl w a n l) (hn:n≤4398046511104) (hB:w.cell? ⟨B,0,none⟩=some (.string nm)) :
 Calls Tryz.prog 144 #[.slice a n c,.func (.func 165) #[] #[.pointer (some ⟨B,0,none⟩)]] w fun e w'=>e = .returned (.int .i64 (atL l nm))∧Below w.heap.size w w':=by
 have hlen:n=l.length:=h.1
 have HN:=Lib.hid hlen
 have HSL:=Lib.hid h
 have HCB:=Lib.hid hB
 obtain⟨r,hr⟩:∃ r,r=atL l nm:=⟨_,rfl⟩
 rw [← hr]
 have HR:=Lib.hid hr
 clear h hlen hB hr
 go_enter Tryz.func144,Tryz.ntmps144
 go_wp2
 go_loopg [5,8] n (fun gk v5 i wr=>∃ (k:Nat),k≤n∧gk=n - k∧i = .int .i64 (k:Int)∧Hid (Below w.heap.size w wr)∧Hid (∀ j (h:j<l.length),j<k→l[j].nm≠nm))
 case atStart=>exact⟨0,Nat.zero_le _,rfl,rfl,Lib.hid (Below.refl _ _),Lib.hid (fun j h hj=>absurd hj (Nat.not_lt_zero _))⟩
 case round =>
  obtain⟨k,hk,rfl,rfl,hW,hall⟩:=hrel
  by_cases hlt:k<n
  ·have hkd:k<l.length:=by rw [← HN.out]; exact hlt
   obtain⟨-,b,off,rfl,hcells⟩:=fl_at (HSL.out.keep hW.out) (by omega)
   obtain⟨c0,c1,c2⟩:=hcells k hkd
   have hki:(k:Int)<(n:Int):=by omega
   have hop:=Lib.hid (fun (v:Bool) (hv:Hid ((l[k].nm.toList==nm.toList)=v))=>isFile_any l[k] nm B wr (cell_keep hW.out HCB.out) v hv)
   clear hcells
   by_cases hq:l[k].nm=nm
   ·have HV:=Lib.hid (atL_hit hkd hq hall.out)
    have hc:=Lib.hid (hop.out true (Lib.hid (toList_yes hq)))
    clear hop hall hq
    generalize l[k]=o at *
    obtain⟨o0,o1,o2⟩:=o
    go_wp2_with fail
    refine hc.out.mono ?_
    rintro e w1 ⟨rfl,hb1⟩
    have HB:=Lib.hid (below_then hW.out hb1 hW.out.size)
    clear hb1
    go_wp2_with fail
    go_ret
    exact⟨ret_int (by rw [HR.out,HV.out]),HB.out⟩
   ·have hc:=Lib.hid (hop.out false (Lib.hid (toList_ne hq)))
    have hall2:Hid (∀ j (h:j<l.length),j<k+1→l[j].nm≠nm):=Lib.hid fun j h hj=>by
     by_cases hjk:j=k
     ·subst hjk; exact hq
     ·exact hall.out j h (by omega)
    clear hop hall hq
    generalize l[k]=o at *
    obtain⟨o0,o1,o2⟩:=o
    go_wp2_with fail
    refine hc.out.mono ?_
    rintro e w1 ⟨rfl,hb1⟩
    have HB:=Lib.hid (below_then hW.out hb1 hW.out.size)
    clear hb1
    go_wp2_with fail
    go_roundg (n - (k+1))
    case rel=>exact⟨k+1,by omega,rfl,by go_num,HB,hall2⟩
    case measure=>omega
  ·have HV:=Lib.hid (atL_miss (l:=l) (nm:=nm) (fun j h=>hall.out j h (by have:=HN.out; omega)))
   have hki:(n:Int)≤(k:Int):=by omega
   clear hall
   go_wp2_with fail
   go_ret
   exact⟨ret_int (by rw [HR.out,← HV.out]),hW.out⟩
set_option maxHeartbeats 400000 in
theorem find_any (a:Option Addr) (n c:Nat) (l:List Fl) (nm:ByteArray) (w:World) (h:flE.Sl w a n l) (hn:n≤4398046511104) (v:Int) (hv:Hid (v=atL l nm)) :
 Calls Tryz.prog 113 #[.slice a n c,.string nm] w fun e w'=>e = .returned (.int .i64 v)∧Below w.heap.size w w':=by
 have hA:Below w.heap.size w (w.alloc (.cells #[.string nm] 9)):=(Below.refl _ w).alloc (Nat.le_refl _) _
 have H:=Lib.hid (filesIdx_any a n c l nm w.heap.size (w.alloc (.cells #[.string nm] 9)) (h.keep hA) hn (cell_new (cs:=#[.string nm]) 0 (v:=.string nm) rfl))
 have HA:=Lib.hid hA
 rw [← hv.out] at H
 clear h hn hA hv
 go_enter Tryz.func113,Tryz.ntmps113
 go_wp2_with fail
 refine H.out.mono ?_
 rintro e w1 ⟨rfl,hb1⟩
 have HB:=Lib.hid (below_then HA.out hb1 HA.out.size)
 clear hb1
 go_wp2_with fail
 go_ret
 exact⟨rfl,HB.out⟩
end Go.Proofs.YtlpgbmaoenncjaaGreatDoor

namespace Go.Proofs.YtlpgbmaoenncjaaGreatDoor
open Go.RowKit Go.BigFrame
set_option linter.unusedVariables false
set_option maxRecDepth 100000
theorem DkAt.right {a:Option Addr}{n c:Nat}{d:Dk}{w:World}(h:DkAt w a n c d) (W:World) (hb:Below w.heap.size w W) (v:Bool) (hv:rightD d=v) :
 Calls Tryz.prog 50 #[d.val a n c] W fun e w'=>e = .returned (.bool v)∧Below W.heap.size W w' :=
 dkRight_any a n c d W (h.keep hb) v (Lib.hid hv.symm)
set_option maxHeartbeats 2000000 in
theorem ready_any (a:Option Addr) (n c:Nat) (d:Dk) (an:Option Addr) (nn cn:Nat) (nms:List ByteArray) (w:World) (h:DkAt w a n c d) (hsl:SlAt w an nn (nms.map Value.string)) (hn:nn≤9223372036854775807) (hs:∀ s∈nms,s.size≤maxLen)
 (v:Int) (hv:Hid (v=readyD d nms)) :
 Calls Tryz.prog 112 #[d.val a n c,.slice an nn cn] w fun e w'=>e = .returned (.int .i64 v)∧Below w.heap.size w w':=by
 have hA:Below w.heap.size w (w.alloc (.cells #[.int .i64 d.room,.slice a n c,.int .i64 d.left,.bool d.down] 38)):=(Below.refl _ w).alloc (Nat.le_refl _) _
 have g3:(w.alloc (.cells #[.int .i64 d.room,.slice a n c,.int .i64 d.left,.bool d.down] 38)).cell? ⟨w.heap.size,3,none⟩=some (.bool d.down):=cell_new (cs:=#[.int .i64 d.room,.slice a n c,.int .i64 d.left,.bool d.down]) 3 (v:=.bool d.down) rfl
 have H1:=Lib.hid (fun b hb=>h.right (w.alloc (.cells #[.int .i64 d.room,.slice a n c,.int .i64 d.left,.bool d.down] 38)) hA b hb)
 have H2:=Lib.hid (fun (W:World) (hb:Below w.heap.size w W) (b:Bool) hbv=>badName_any an nn cn nms W (hsl.keep hb) hn hs b hbv)
 have HA:=Lib.hid hA
 have HG:=Lib.hid g3
 clear h hsl hn hs hA g3
 cases hr:rightD d with
 | false =>
   have hfin:v=1:=by rw [hv.out]; unfold readyD; rw [if_pos (.inl hr)]
   have hc:=Lib.hid (H1.out false hr)
   clear H1 H2 hr hv
   obtain⟨r,l,lf,dn⟩:=d
   unfold Dk.val
   dsimp only at *
   go_enter Tryz.func112,Tryz.ntmps112
   go_wp2_with fail
   refine hc.out.mono ?_
   rintro e w1 ⟨rfl,hb1⟩
   have HB:=Lib.hid (below_then HA.out hb1 HA.out.size)
   clear hb1
   go_wp2_with fail
   go_ret
   exact⟨ret_int hfin.symm,HB.out⟩
 | true =>
   have hc:=Lib.hid (H1.out true hr)
   cases hnm:nms.all nmOk with
   | false =>
     have hfin:v=1:=by rw [hv.out]; unfold readyD; rw [if_pos (.inr hnm)]
     have hc2:=Lib.hid (fun (W:World) (hb:Below w.heap.size w W)=>H2.out W hb true (Lib.hid (by rw [hnm]; rfl)))
     clear H1 H2 hr hv hnm
     obtain⟨r,l,lf,dn⟩:=d
     unfold Dk.val
     dsimp only at *
     go_enter Tryz.func112,Tryz.ntmps112
     go_wp2_with fail
     refine hc.out.mono ?_
     rintro e w1 ⟨rfl,hb1⟩
     have HB:=Lib.hid (below_then HA.out hb1 HA.out.size)
     clear hb1
     go_wp2_with fail
     refine (hc2.out _ HB.out).mono ?_
     rintro e w2 ⟨rfl,rfl⟩
     go_wp2_with fail
     go_ret
     exact⟨ret_int hfin.symm,HB.out⟩
   | true =>
     have hc2:=Lib.hid (fun (W:World) (hb:Below w.heap.size w W)=>H2.out W hb false (Lib.hid (by rw [hnm]; rfl)))
     have hne:¬ (rightD d=false∨nms.all nmOk=false):=by rw [hr,hnm]; simp
     cases hd:d.down with
     | true =>
       have hfin:v=132:=by rw [hv.out]; unfold readyD; rw [if_neg hne,if_pos hd]
       clear H1 H2 hr hv hnm hne
       obtain⟨r,l,lf,dn⟩:=d
       unfold Dk.val
       dsimp only at *
       subst hd
       go_enter Tryz.func112,Tryz.ntmps112
       go_wp2_with fail
       refine hc.out.mono ?_
       rintro e w1 ⟨rfl,hb1⟩
       have g:=cell_keep hb1 HG.out
       have HB:=Lib.hid (below_then HA.out hb1 HA.out.size)
       clear hb1
       go_wp2_with fail
       refine (hc2.out _ HB.out).mono ?_
       rintro e w2 ⟨rfl,rfl⟩
       go_wp2_with fail
       go_ret
       exact⟨ret_int hfin.symm,HB.out⟩
     | false =>
       have hfin:v=0:=by rw [hv.out]; unfold readyD; rw [if_neg hne,if_neg (by rw [hd]; simp)]
       clear H1 H2 hr hv hnm hne
       obtain⟨r,l,lf,dn⟩:=d
       unfold Dk.val
       dsimp only at *
       subst hd
       go_enter Tryz.func112,Tryz.ntmps112
       go_wp2_with fail
       refine hc.out.mono ?_
       rintro e w1 ⟨rfl,hb1⟩
       have g:=cell_keep hb1 HG.out
       have HB:=Lib.hid (below_then HA.out hb1 HA.out.size)
       clear hb1
       go_wp2_with fail
       refine (hc2.out _ HB.out).mono ?_
       rintro e w2 ⟨rfl,rfl⟩
       go_wp2_with fail
       go_ret
       exact⟨ret_int hfin.symm,HB.out⟩
end Go.Proofs.YtlpgbmaoenncjaaGreatDoor

namespace Go.Proofs.YtlpgbmaoenncjaaGreatDoor
open Go.RowKit Go.BigFrame
set_option linter.unusedVariables false
set_option maxRecDepth 100000
theorem infoFile:(Tryz.prog.info? 55).map (fun i=>(i.zero,i.size,i.bytes))=some (some (.agg #[.string ⟨#[]⟩,.string ⟨#[]⟩,.string ⟨#[]⟩]),3,48):=by kernel_rfl
def OwnFs (w w':World) (l:List Fl) (v:Value):Prop:=w'.ownsRow w.heap.size 55 3 v l.length (flE.cells l)∧Below w.heap.size w w'
set_option maxHeartbeats 1000000 in
theorem clone_any (a:Option Addr) (n c:Nat) (l:List Fl) (w:World) (h:flE.Sl w a n l) (hn:n≤1000000) (hcn:a=none→c=0) :
 Calls Tryz.prog 70 #[.slice a n c] w fun e w'=>∃ v,e = .returned v∧OwnFs w w' l v:=by
 obtain⟨i0,hi,hz0,hz1,hz2⟩:=info_parts infoFile
 have HI:=Lib.hid hi
 have HZ:=Lib.hid (And.intro hz0 (And.intro hz1 hz2))
 clear hi hz0 hz1 hz2
 have hl:n=l.length:=h.1
 have q:∀ (w:World) (a:Option Addr) (n c n' c':Nat),(binOp .eql 36 (.slice a n c) (.slice none n' c')).run Tryz.prog w = .ok (.bool a.isNone) w:=fun w a n c n' c'=>Lib.run_eql_slice_nil w _ _ a n c n' c' Tryz.underlying36
 cases a with
 | none =>
   obtain rfl:=hcn rfl
   have hl0:l=[]:=by
    rcases h.2 with h1 | ⟨b,off,e,_⟩
    ·exact h1
    ·cases e
   subst hl0
   have hn0:n=0:=hl
   clear hl
   subst hn0
   clear h hcn hn
   go_enter Tryz.func70,Tryz.ntmps70
   go_wp2
   go_ret
   exact⟨_,rfl,World.ownsRow_nil _ _ _ _,Below.refl _ _⟩
 | some x =>
   have HL:=Lib.hid hl
   have HO0:Hid ((w.alloc (.cells #[] 55)).ownsRow w.heap.size 55 3 (.slice (some ⟨w.heap.size,0,none⟩) 0 0) 0 (flE.cells [])):=Lib.hid (Enc.row_lit0 w w.heap.size (Nat.le_refl _) _ _)
   have HBA:=Lib.hid ((Below.refl w.heap.size w).alloc (Nat.le_refl _) (.cells #[] 55))
   have HS:=Lib.hid (h.keep HBA.out)
   clear h hl hcn
   go_enter Tryz.func70,Tryz.ntmps70
   go_wp2_with (at_builtin; refine Enc.wpList_app (E:=flE) _ rfl _ _ 36 rfl w.heap.size 55 i0 _ 48 Tryz.underlying36 HI.out HZ.out.1 HZ.out.2.1 HZ.out.2.2 rfl _ 0 [] HO0.out rfl (some x) n c l rfl HS.out (fun e=>by cases e) (by unfold maxLen; omega) (by omega) HBA.out.size ?_)
   intro v3 w3 ho3 hg3
   have HB3:=Lib.hid (HBA.out.grown hg3 HBA.out.size (fun q e=>(HO0.out.lt q e).1))
   have HO3:Hid (w3.ownsRow w.heap.size 55 3 v3 l.length (flE.cells l)):=Lib.hid (by rw [← HL.out]; exact ho3)
   clear ho3 hg3
   go_wp2_with fail
   go_ret
   exact⟨_,rfl,HO3.out,HB3.out⟩
theorem Four.keep {w w':World}{b:Nat}{t:TypeId}{v0 v1 v2 v3:Value}(h:Four w b t v0 v1 v2 v3) (hb:Below w.heap.size w w'):Four w' b t v0 v1 v2 v3:=(hb.block b (lt_of_block h)).trans h
def DkBox (w:World) (b:Nat) (d:Dk) (a:Option Addr) (n c:Nat):Prop:=Four w b 38 (.int .i64 d.room) (.slice a n c) (.int .i64 d.left) (.bool d.down)
theorem DkBox.keep {w w':World}{b:Nat}{d:Dk}{a:Option Addr}{n c:Nat}(h:DkBox w b d a n c) (hb:Below w.heap.size w w'):DkBox w' b d a n c:=Four.keep h hb
theorem DkBox.new (w:World) (d:Dk) (a:Option Addr) (n c:Nat):DkBox (w.alloc (.cells #[.int .i64 d.room,.slice a n c,.int .i64 d.left,.bool d.down] 38)) w.heap.size d a n c:=Four.new ..
theorem slAt_one (w:World) (s:ByteArray):SlAt (w.alloc (.cells #[.string s] 9)) (some ⟨w.heap.size,0,none⟩) 1 ([s].map Value.string) :=
 ⟨rfl,.inr ⟨w.heap.size,0,rfl,fun i hi=>by
   have:i=0:=by simpa using hi
   subst this
   exact cell_new (cs:=#[.string s]) 0 (v:=.string s) rfl⟩⟩
theorem slAt_two (w:World) (s t:ByteArray):SlAt (w.alloc (.cells #[.string s,.string t] 9)) (some ⟨w.heap.size,0,none⟩) 2 ([s,t].map Value.string) :=
 ⟨rfl,.inr ⟨w.heap.size,0,rfl,fun i hi=>by
   have:i<2:=by simpa using hi
   match i,this with
   | 0,_=>exact cell_new (cs:=#[.string s,.string t]) 0 (v:=.string s) rfl
   | 1,_=>exact cell_new (cs:=#[.string s,.string t]) 1 (v:=.string t) rfl⟩⟩
theorem ready_one (a:Option Addr) (n c:Nat) (d:Dk) (nm:ByteArray) (w W:World) (h:DkAt w a n c d) (hb:Below w.heap.size w W) (hs:nm.size≤maxLen) (B:Nat) (hB:B=W.heap.size) (v:Int) (hv:Hid (v=readyD d [nm])) :
 Calls Tryz.prog 112 #[d.val a n c,.slice (some ⟨B,0,none⟩) 1 1] (W.alloc (.cells #[.string nm] 9)) fun e w'=>e = .returned (.int .i64 v)∧Below W.heap.size W w':=by
 subst hB
 exact (ready_any a n c d _ 1 1 [nm] _ (h.keep (hb.alloc hb.size _)) (slAt_one W nm) (by decide) (fun s hs'=>by rw [List.mem_singleton.1 hs']; exact hs) v hv).mono fun e w' ⟨he,hb2⟩ =>
  ⟨he,below_then ((Below.refl _ W).alloc (Nat.le_refl _) _) hb2 (by simp)⟩
theorem ready_two (a:Option Addr) (n c:Nat) (d:Dk) (nm to:ByteArray) (w W:World) (h:DkAt w a n c d) (hb:Below w.heap.size w W) (hs:nm.size≤maxLen) (hs2:to.size≤maxLen) (B:Nat) (hB:B=W.heap.size) (v:Int) (hv:Hid (v=readyD d [nm,to])) :
 Calls Tryz.prog 112 #[d.val a n c,.slice (some ⟨B,0,none⟩) 2 2] (W.alloc (.cells #[.string nm,.string to] 9)) fun e w'=>e = .returned (.int .i64 v)∧Below W.heap.size W w':=by
 subst hB
 exact (ready_any a n c d _ 2 2 [nm,to] _ (h.keep (hb.alloc hb.size _)) (slAt_two W nm to) (by decide) (fun s hs'=>by
  rcases List.mem_cons.1 hs' with rfl | hs'
  ·exact hs
  ·rw [List.mem_singleton.1 hs']; exact hs2) v hv).mono fun e w' ⟨he,hb2⟩ =>
  ⟨he,below_then ((Below.refl _ W).alloc (Nat.le_refl _) _) hb2 (by simp)⟩
set_option maxHeartbeats 1000000 in
theorem read_any (a:Option Addr) (n c:Nat) (d:Dk) (nm:ByteArray) (w:World) (h:DkAt w a n c d) (hs:nm.size≤maxLen) (v:ByteArray) (x:Int) (hv:Hid ((v,x)=readD d nm)) :
 Calls Tryz.prog 63 #[d.val a n c,.string nm] w fun e w'=>e = .returned (.tuple #[.string v,.int .i64 x])∧Below w.heap.size w w':=by
 have hA:Below w.heap.size w (w.alloc (.cells #[.int .i64 d.room,.slice a n c,.int .i64 d.left,.bool d.down] 38)):=(Below.refl _ w).alloc (Nat.le_refl _) _
 have HA:=Lib.hid hA
 have HBX:=Lib.hid (DkBox.new w d a n c)
 have H:=Lib.hid h
 have hnb:=h.nb
 obtain⟨r0,hr0⟩:∃ r0,r0=readyD d [nm]:=⟨_,rfl⟩
 have hr:=Lib.hid (ready_one a n c d nm w _ h hA hs (w.heap.size+1) (by simp) r0 (Lib.hid hr0))
 obtain⟨k0,hk0⟩:∃ k0,k0=atL d.files nm:=⟨_,rfl⟩
 have hf:=Lib.hid (fun (W:World) (hb:Below w.heap.size w W)=>find_any a n c d.files nm W (h.sl.keep hb) hnb k0 (Lib.hid hk0))
 clear hA h
 by_cases hz:r0=0
 ·subst hz
  have hv2:(v,x)=if k0<0 then (⟨#[]⟩,60) else ((fileOf d.files nm).sy++(fileOf d.files nm).ta,0):=by rw [hv.out]; unfold readD; rw [← hr0,if_neg (by simp),← hk0]
  clear hv
  by_cases hk:k0<0
  ·rw [if_pos hk] at hv2
   obtain⟨rfl,rfl⟩:=Prod.mk.inj hv2
   clear hv2 hr0 hk0
   obtain⟨rm,l,lf,dn⟩:=d
   unfold Dk.val at *
   dsimp only at *
   go_enter Tryz.func63,Tryz.ntmps63
   go_wp2_with fail
   refine hr.out.mono ?_
   rintro e w1 ⟨rfl,hb1⟩
   have HB1:=Lib.hid (below_then HA.out hb1 HA.out.size)
   have hB1:=HBX.out.keep hb1
   clear hb1
   obtain e0:=hB1.c0; have e1:=hB1.c1; have e2:=hB1.c2; have e3:=hB1.c3
   clear hB1
   go_wp2_with fail
   refine (hf.out w1 HB1.out).mono ?_
   rintro e w2 ⟨rfl,hb2⟩
   have HB2:=Lib.hid (below_then HB1.out hb2 HB1.out.size)
   clear hb2
   go_wp2_with fail
   go_ret2
   exact⟨rfl,HB2.out⟩
  ·rw [if_neg hk] at hv2
   obtain⟨rfl,rfl⟩:=Prod.mk.inj hv2
   rw [hk0] at hk
   obtain⟨j,hj,hj1,hj2,hj3⟩:=atL_lt hk
   rw [hj1] at hk0
   subst hk0
   rw [hj3]
   have hjn:(j:Int)<(n:Int):=by have:=H.out.len; omega
   have HJ:=Lib.hid hj
   clear hv2 hr0 hk hj1 hj2 hj3
   have hfl:Hid (∀ (W:World),Below w.heap.size w W→∃ b off,a=some ⟨b,off,none⟩∧w.cell? ⟨b,off+j*3,none⟩=some (.string d.files[j].nm)∧W.cell? ⟨b,off+j*3+1,none⟩=some (.string d.files[j].sy)∧W.cell? ⟨b,off+j*3+2,none⟩=some (.string d.files[j].ta)):=Lib.hid fun W hb=>by
    obtain⟨b,off,he,hc⟩:=(fl_at H.out.sl (by omega)).2
    exact⟨b,off,he,(hc j hj).1,(hc.keep hb j hj).2.1,(hc.keep hb j hj).2.2⟩
   obtain⟨s0,s1,s2⟩:=H.out.small (d.files[j]) (List.getElem_mem _)
   generalize d.files[j]=o at *
   obtain⟨o0,o1,o2⟩:=o
   have s1:o1.size≤140737488355328:=s1
   have s2:o2.size≤140737488355328:=s2
   dsimp only at *
   obtain⟨rm,l,lf,dn⟩:=d
   unfold Dk.val at *
   dsimp only at *
   go_enter Tryz.func63,Tryz.ntmps63
   go_wp2_with fail
   refine hr.out.mono ?_
   rintro e w1 ⟨rfl,hb1⟩
   have HB1:=Lib.hid (below_then HA.out hb1 HA.out.size)
   have hB1:=HBX.out.keep hb1
   clear hb1
   obtain e0:=hB1.c0; have e1:=hB1.c1; have e2:=hB1.c2; have e3:=hB1.c3
   go_wp2_with fail
   refine (hf.out w1 HB1.out).mono ?_
   rintro e w2 ⟨rfl,hb2⟩
   have HB2:=Lib.hid (below_then HB1.out hb2 HB1.out.size)
   have hB2:=hB1.keep hb2
   clear hb2 hB1 e0 e1 e2 e3
   obtain⟨b,off,rfl,-,c1,c2⟩:=hfl.out w2 HB2.out
   have e0:=hB2.c0; have e1:=hB2.c1; have e2:=hB2.c2; have e3:=hB2.c3
   clear hB2
   go_wp2_with fail
   go_quiet (fail)
   go_wp2_with fail
   go_ret2
   exact⟨rfl,below_drewN HB2.out _⟩
 ·have hv2:v=⟨#[]⟩∧x=r0:=by have:=hv.out; unfold readD at this; rw [← hr0,if_pos hz] at this; exact Prod.mk.inj this
  obtain⟨rfl,rfl⟩:=hv2
  have hne:(x != 0)=true:=bne_iff_ne.2 hz
  clear hv hr0 hk0 hf hz
  obtain⟨rm,l,lf,dn⟩:=d
  unfold Dk.val at *
  dsimp only at *
  go_enter Tryz.func63,Tryz.ntmps63
  go_wp2_with fail
  refine hr.out.mono ?_
  rintro e w1 ⟨rfl,hb1⟩
  have HB1:=Lib.hid (below_then HA.out hb1 HA.out.size)
  clear hb1
  go_wp2_with fail
  go_ret2
  exact⟨rfl,HB1.out⟩
end Go.Proofs.YtlpgbmaoenncjaaGreatDoor

namespace Go.Proofs.YtlpgbmaoenncjaaGreatDoor
open Go.RowKit Go.BigFrame
set_option linter.unusedVariables false
set_option maxRecDepth 100000
theorem name_small {s:ByteArray}(h:nmOk s=true):s.size≤16:=by
 unfold nmOk at h
 simp only [Bool.and_eq_true,decide_eq_true_eq] at h
 exact h.2
theorem szS_mem {l:List Fl}{f:Fl}(h:f∈l):f.sy.size+f.ta.size≤szS l:=by
 induction l with
 | nil=>cases h
 | cons g r ih =>
   rw [szS_cons]
   rcases List.mem_cons.1 h with rfl | h
   ·omega
   ·have:=ih h; omega
theorem right_small {d:Dk}(h:rightD d=true):∀ f∈d.files,f.nm.size≤16∧f.sy.size+f.ta.size≤1048576:=by
 intro f hf
 have h1:=name_small ((rightD_fs h).1 f hf)
 have h2:=szS_mem hf
 have h3:=(rightD_size h).2
 have h4:=(rightD_nums h).1
 exact⟨h1,by omega⟩
theorem own_cm {w:World}{base:Nat}{e:TypeId}{size n c k:Nat}{a:Option Addr}{xs:List Value}(h:w.ownsRow base e size (.slice a n c) k xs):c≤maxLen:=by
 rcases h.2 with ⟨hv,_⟩ | ⟨g,cap,cur,hv,_,_,_,hcm,_⟩
 ·cases hv; exact Nat.zero_le _
 ·cases hv; exact hcm
theorem DkAt.own {w w':World}{d:Dk}{v:Value}(h:OwnFs w w' d.files v) (hr:rightD d=true):∃ a n c,v = .slice a n c∧DkAt w' a n c d∧∀ x,a=some x→w.heap.size≤x.block:=by
 obtain⟨a,c,rfl,h1,h2,h3,h4,h5⟩:=Enc.own_sl (E:=flE) h.1
 have hcm:=own_cm h.1
 obtain⟨⟨a0,a1⟩,h8,b0,b1⟩:=rightD_nums hr
 refine⟨_,_,_,rfl,⟨h2,h4,hcm,h5,by omega,fun f hf=>?_,by omega,by omega⟩,h3⟩
 obtain⟨s1,s2⟩:=right_small hr f hf
 exact⟨by omega,by omega,by omega⟩
theorem DkAt.set {w:World}{d:Dk}{a:Option Addr}{n c b o:Nat}(h:DkAt w a n c d) (hx:∀ x,a=some x→x.block≠b) (u:Value):DkAt (w.setCell ⟨b,o,none⟩ u) a n c d :=
 { h with sl:=h.sl.kept (grown_setCell w b o u) (fun q e he=>by
    cases a with
    | none=>cases e
    | some x=>simp at e he; exact hx x rfl (by omega)) }
theorem DkAt.sets {w:World}{d:Dk}{a:Option Addr}{n c b:Nat}(h:DkAt w a n c d) (hx:∀ x,a=some x→x.block≠b) (u0 u1 u2 u3:Value) :
 DkAt ((((w.setCell ⟨b,0,none⟩ u0).setCell ⟨b,1,none⟩ u1).setCell ⟨b,2,none⟩ u2).setCell ⟨b,3,none⟩ u3) a n c d:=(((h.set hx u0).set hx u1).set hx u2).set hx u3
theorem right_left {d:Dk}(h:rightD d=true) (left:Int) (dn:Bool) (h0:-1≤left) (h1:left≤1073741824):rightD ⟨d.room,d.files,left,dn⟩=true:=by
 obtain⟨⟨a0,a1⟩,h8,b0,b1⟩:=rightD_nums h
 obtain⟨h4,h5⟩:=rightD_fs h
 exact rightD_mk a0 a1 h8 h0 h1 (rightD_size h).2 h4 h5
def RetDk (w:World) (r:Dk × Int) (e:Ending) (w':World):Prop:=∃ a n c,e = .returned (.tuple #[Dk.val r.1 a n c,.int .i64 r.2])∧DkAt w' a n c r.1∧Below w.heap.size w w'
theorem DkAt.zero (w:World):DkAt w none 0 0 Dk.zero :=
 ⟨Enc.Sl.nil _ _,Nat.le_refl _,Nat.zero_le _,fun _=>rfl,by decide,fun f hf=>(by cases hf),by decide,by decide⟩
theorem RetDk.zero {w w':World}(x:Int) (hb:Below w.heap.size w w'):RetDk w (Dk.zero,x) (.returned (.tuple #[.agg #[.int .i64 0,.slice none 0 0,.int .i64 0,.bool false],.int .i64 x])) w' :=
 ⟨none,0,0,rfl,DkAt.zero w',hb⟩
def outBox (w:World) (b:Nat):Prop:=Four w b 38 (.int .i64 0) (.slice none 0 0) (.int .i64 0) (.bool false)
def twoW (w:World) (d:Dk) (a:Option Addr) (n c:Nat):World:=(w.alloc (.cells #[.int .i64 d.room,.slice a n c,.int .i64 d.left,.bool d.down] 38)).alloc (.cells #[.int .i64 0,.slice none 0 0,.int .i64 0,.bool false] 38)
theorem two_below (w:World) (d:Dk) (a:Option Addr) (n c:Nat):Below w.heap.size w (twoW w d a n c):=((Below.refl _ w).alloc (Nat.le_refl _) _).alloc (by simp) _
theorem two_box (w:World) (d:Dk) (a:Option Addr) (n c:Nat):DkBox (twoW w d a n c) w.heap.size d a n c:=(DkBox.new w d a n c).keep ((Below.refl _ _).alloc (Nat.le_refl _) _)
theorem two_out (w:World) (d:Dk) (a:Option Addr) (n c:Nat):outBox (twoW w d a n c) (w.heap.size+1):=by
 have:=Four.new (w.alloc (.cells #[.int .i64 d.room,.slice a n c,.int .i64 d.left,.bool d.down] 38)) 38 (.int .i64 0) (.slice none 0 0) (.int .i64 0) (.bool false)
 rw [World.size_alloc] at this
 exact this
theorem RetDk.zero4 {w w1:World}(x:Int) (b:Nat) (hb:Below w.heap.size w w1) (hB:w.heap.size≤b):RetDk w (Dk.zero,x) (.returned (.tuple #[.agg #[.int .i64 0,.slice none 0 0,.int .i64 0,.bool false],.int .i64 x]))
 ((((w1.setCell ⟨b,0,none⟩ (.int .i64 0)).setCell ⟨b,1,none⟩ (.slice none 0 0)).setCell ⟨b,2,none⟩ (.int .i64 0)).setCell ⟨b,3,none⟩ (.bool false)) :=
 RetDk.zero x ((((hb.setCell hB _).setCell hB _).setCell hB _).setCell hB _)
theorem four_sets {w w1:World}{b:Nat}(hb:Below w.heap.size w w1) (hB:w.heap.size≤b) (u0 u1 u2 u3:Value):Below w.heap.size w ((((w1.setCell ⟨b,0,none⟩ u0).setCell ⟨b,1,none⟩ u1).setCell ⟨b,2,none⟩ u2).setCell ⟨b,3,none⟩ u3) :=
 (((hb.setCell hB _).setCell hB _).setCell hB _).setCell hB _
set_option maxHeartbeats 1000000 in
theorem cut_wrong (a:Option Addr) (n c:Nat) (d:Dk) (left:Int) (w:World) (h:DkAt w a n c d) (hr:rightD d=false) :
 Calls Tryz.prog 28 #[d.val a n c,.int .i64 left] w (RetDk w (Dk.zero,1)):=by
 have hc:=Lib.hid (h.right (twoW w d a n c) (two_below w d a n c) false hr)
 have HA:=Lib.hid (two_below w d a n c)
 have HB:=Lib.hid (two_box w d a n c)
 have HO:=Lib.hid (two_out w d a n c)
 clear h hr
 unfold twoW at *
 obtain⟨rm,l,lf,dn⟩:=d
 unfold Dk.val at *
 dsimp only at *
 go_enter Tryz.func28,Tryz.ntmps28
 go_wp2_with fail
 refine hc.out.mono ?_
 rintro e w1 ⟨rfl,hb1⟩
 have HB1:=Lib.hid (below_then HA.out hb1 HA.out.size)
 have o1:=Four.keep HO.out hb1
 have p1:=Four.keep HB.out hb1
 have e0:=o1.c0; have e1:=o1.c1; have e2:=o1.c2; have e3:=o1.c3
 have g0:=o1.free 0; have g1:=o1.free 1; have g2:=o1.free 2; have g3:=o1.free 3
 have q0:=p1.c0; have q1:=p1.c1; have q2:=p1.c2; have q3:=p1.c3
 clear hb1 o1 p1
 go_wp2_with fail
 refine bodyPost_ret (v:=.tuple #[.agg #[.int .i64 0,.slice none 0 0,.int .i64 0,.bool false],.int .i64 1]) ?_ rfl ?_
 ·rw [results_cell_tmp rfl]; go_simp
 ·exact RetDk.zero4 1 _ HB1.out (by omega)
set_option maxHeartbeats 1000000 in
theorem cut_low (a:Option Addr) (n c:Nat) (d:Dk) (left:Int) (w:World) (h:DkAt w a n c d) (hr:rightD d=true) (hl:left < -1) :
 Calls Tryz.prog 28 #[d.val a n c,.int .i64 left] w (RetDk w (Dk.zero,1)):=by
 have hc:=Lib.hid (h.right (twoW w d a n c) (two_below w d a n c) true hr)
 have HA:=Lib.hid (two_below w d a n c)
 have HB:=Lib.hid (two_box w d a n c)
 have HO:=Lib.hid (two_out w d a n c)
 clear h hr
 unfold twoW at *
 obtain⟨rm,l,lf,dn⟩:=d
 unfold Dk.val at *
 dsimp only at *
 go_enter Tryz.func28,Tryz.ntmps28
 go_wp2_with fail
 refine hc.out.mono ?_
 rintro e w1 ⟨rfl,hb1⟩
 have HB1:=Lib.hid (below_then HA.out hb1 HA.out.size)
 have o1:=Four.keep HO.out hb1
 have p1:=Four.keep HB.out hb1
 have e0:=o1.c0; have e1:=o1.c1; have e2:=o1.c2; have e3:=o1.c3
 have g0:=o1.free 0; have g1:=o1.free 1; have g2:=o1.free 2; have g3:=o1.free 3
 have q0:=p1.c0; have q1:=p1.c1; have q2:=p1.c2; have q3:=p1.c3
 clear hb1 o1 p1
 go_wp2_with fail
 refine bodyPost_ret (v:=.tuple #[.agg #[.int .i64 0,.slice none 0 0,.int .i64 0,.bool false],.int .i64 1]) ?_ rfl ?_
 ·rw [results_cell_tmp rfl]; go_simp
 ·exact RetDk.zero4 1 _ HB1.out (by omega)
set_option maxHeartbeats 1000000 in
theorem cut_high (a:Option Addr) (n c:Nat) (d:Dk) (left:Int) (w:World) (h:DkAt w a n c d) (hr:rightD d=true) (h0:-1≤left) (hl:1073741824<left) :
 Calls Tryz.prog 28 #[d.val a n c,.int .i64 left] w (RetDk w (Dk.zero,1)):=by
 have hc:=Lib.hid (h.right (twoW w d a n c) (two_below w d a n c) true hr)
 have HA:=Lib.hid (two_below w d a n c)
 have HB:=Lib.hid (two_box w d a n c)
 have HO:=Lib.hid (two_out w d a n c)
 clear h hr
 unfold twoW at *
 obtain⟨rm,l,lf,dn⟩:=d
 unfold Dk.val at *
 dsimp only at *
 go_enter Tryz.func28,Tryz.ntmps28
 go_wp2_with fail
 refine hc.out.mono ?_
 rintro e w1 ⟨rfl,hb1⟩
 have HB1:=Lib.hid (below_then HA.out hb1 HA.out.size)
 have o1:=Four.keep HO.out hb1
 have p1:=Four.keep HB.out hb1
 have e0:=o1.c0; have e1:=o1.c1; have e2:=o1.c2; have e3:=o1.c3
 have g0:=o1.free 0; have g1:=o1.free 1; have g2:=o1.free 2; have g3:=o1.free 3
 have q0:=p1.c0; have q1:=p1.c1; have q2:=p1.c2; have q3:=p1.c3
 clear hb1 o1 p1
 go_wp2_with fail
 refine bodyPost_ret (v:=.tuple #[.agg #[.int .i64 0,.slice none 0 0,.int .i64 0,.bool false],.int .i64 1]) ?_ rfl ?_
 ·rw [results_cell_tmp rfl]; go_simp
 ·exact RetDk.zero4 1 _ HB1.out (by omega)
set_option maxHeartbeats 1000000 in
theorem cut_down (a:Option Addr) (n c:Nat) (d:Dk) (left:Int) (w:World) (h:DkAt w a n c d) (hr:rightD d=true) (h0:-1≤left) (hl:left≤1073741824) (hd:d.down=true) :
 Calls Tryz.prog 28 #[d.val a n c,.int .i64 left] w (RetDk w (Dk.zero,132)):=by
 have hc:=Lib.hid (h.right (twoW w d a n c) (two_below w d a n c) true hr)
 have HA:=Lib.hid (two_below w d a n c)
 have HB:=Lib.hid (two_box w d a n c)
 have HO:=Lib.hid (two_out w d a n c)
 clear h hr
 unfold twoW at *
 obtain⟨rm,l,lf,dn⟩:=d
 unfold Dk.val at *
 dsimp only at *
 subst hd
 go_enter Tryz.func28,Tryz.ntmps28
 go_wp2_with fail
 refine hc.out.mono ?_
 rintro e w1 ⟨rfl,hb1⟩
 have HB1:=Lib.hid (below_then HA.out hb1 HA.out.size)
 have o1:=Four.keep HO.out hb1
 have p1:=Four.keep HB.out hb1
 have e0:=o1.c0; have e1:=o1.c1; have e2:=o1.c2; have e3:=o1.c3
 have g0:=o1.free 0; have g1:=o1.free 1; have g2:=o1.free 2; have g3:=o1.free 3
 have q0:=p1.c0; have q1:=p1.c1; have q2:=p1.c2; have q3:=p1.c3
 clear hb1 o1 p1
 go_wp2_with fail
 refine bodyPost_ret (v:=.tuple #[.agg #[.int .i64 0,.slice none 0 0,.int .i64 0,.bool false],.int .i64 132]) ?_ rfl ?_
 ·rw [results_cell_tmp rfl]; go_simp
 ·exact RetDk.zero4 132 _ HB1.out (by omega)
set_option maxHeartbeats 1000000 in
theorem cut_ok (a:Option Addr) (n c:Nat) (d:Dk) (left:Int) (w:World) (h:DkAt w a n c d) (hr:rightD d=true) (h0:-1≤left) (hl:left≤1073741824) (hd:d.down=false) :
 Calls Tryz.prog 28 #[d.val a n c,.int .i64 left] w (RetDk w (⟨d.room,d.files,left,d.down⟩,0)):=by
 have hc:=Lib.hid (h.right (twoW w d a n c) (two_below w d a n c) true hr)
 have HA:=Lib.hid (two_below w d a n c)
 have HB:=Lib.hid (two_box w d a n c)
 have HO:=Lib.hid (two_out w d a n c)
 have HL:=Lib.hid (right_left hr left d.down h0 hl)
 have hcl:=Lib.hid (fun (W:World) (hb:Below w.heap.size w W)=>clone_any a n c d.files W (h.sl.keep hb) (by have:=h.len; have:=(rightD_nums hr).2.1; omega) h.cn)
 clear h hr
 unfold twoW at *
 obtain⟨rm,l,lf,dn⟩:=d
 unfold Dk.val at *
 dsimp only at *
 subst hd
 go_enter Tryz.func28,Tryz.ntmps28
 go_wp2_with fail
 refine hc.out.mono ?_
 rintro e w1 ⟨rfl,hb1⟩
 have HB1:=Lib.hid (below_then HA.out hb1 HA.out.size)
 have hz1:w.heap.size+1<w1.heap.size:=by have:=hb1.size; simp at this; omega
 have o1:=Four.keep HO.out hb1
 have p1:=Four.keep HB.out hb1
 have q0:=p1.c0; have q1:=p1.c1; have q2:=p1.c2; have q3:=p1.c3
 have O1:=Lib.hid o1
 have P1:=Lib.hid p1
 clear hb1 o1 p1
 go_wp2_with fail
 refine (hcl.out w1 HB1.out).mono ?_
 rintro e w2 ⟨v,rfl,ho⟩
 obtain⟨a2,n2,c2,rfl,hd2,hx2⟩:=DkAt.own (d:=⟨rm,l,left,false⟩) ho HL.out
 have HD:=Lib.hid hd2
 have HX:=Lib.hid hx2
 have HB2:=Lib.hid (below_then HB1.out ho.2 HB1.out.size)
 have o2:=Four.keep O1.out ho.2
 have p2:=Four.keep P1.out ho.2
 clear q0 q1 q2 q3
 have e0:=o2.c0; have e1:=o2.c1; have e2:=o2.c2; have e3:=o2.c3
 have g0:=o2.free 0; have g1:=o2.free 1; have g2:=o2.free 2; have g3:=o2.free 3
 have q0:=p2.c0; have q1:=p2.c1; have q2:=p2.c2; have q3:=p2.c3
 have f0:=p2.free 0; have f1:=p2.free 1; have f2:=p2.free 2; have f3:=p2.free 3
 clear ho hd2 hx2 o2 p2
 go_wp2_with fail
 refine bodyPost_ret (v:=.tuple #[.agg #[.int .i64 rm,.slice a2 n2 c2,.int .i64 left,.bool false],.int .i64 0]) ?_ rfl ?_
 ·rw [results_cell_tmp rfl]; go_simp
 ·refine⟨a2,n2,c2,rfl,?_,?_⟩
  ·refine DkAt.sets ((HD.out.set ?_ _).set ?_ _) ?_ _ _ _ _
   all_goals intro x hx he; have:=HX.out x hx; omega
  ·exact four_sets ((HB2.out.setCell (by simp) _).setCell (by simp) _) (by omega) _ _ _ _
theorem cut_any (a:Option Addr) (n c:Nat) (d:Dk) (left:Int) (w:World) (h:DkAt w a n c d) :
 Calls Tryz.prog 28 #[d.val a n c,.int .i64 left] w (RetDk w (cutD d left)):=by
 unfold cutD
 cases hr:rightD d with
 | false=>rw [if_pos (.inl rfl)]; exact cut_wrong a n c d left w h hr
 | true =>
   by_cases h0:left < -1
   ·rw [if_pos (.inr (.inl h0))]; exact cut_low a n c d left w h hr h0
   ·by_cases h1:1073741824<left
    ·rw [if_pos (.inr (.inr h1))]; exact cut_high a n c d left w h hr (by omega) h1
    ·rw [if_neg (by simp [h0,h1])]
     cases hd:d.down with
     | true=>rw [if_pos rfl]; exact cut_down a n c d left w h hr (by omega) (by omega) hd
     | false=>rw [if_neg (by simp)]; have:=cut_ok a n c d left w h hr (by omega) (by omega) hd; rw [hd] at this; exact this
end Go.Proofs.YtlpgbmaoenncjaaGreatDoor

namespace Go.Proofs.YtlpgbmaoenncjaaGreatDoor
open Go.RowKit Go.BigFrame
set_option linter.unusedVariables false
set_option maxRecDepth 100000
theorem Enc.cells_set {α:Type}(E:Enc α) {x:α}{j:Nat}{u:Value}(hj:j<E.k):∀ (l:List α) (i:Nat) (hi:i<l.length),E.enc x=(E.enc l[i]).set j u→(E.cells l).set (i*E.k+j) u=E.cells (l.set i x)
 | y :: r,0,_,h=>by
   rw [Nat.zero_mul,Nat.zero_add,E.cells_cons,List.set_append_left _ _ (by rw [E.len]; exact hj)]
   rw [List.set_cons_zero,E.cells_cons,h]
   rfl
 | y :: r,i+1,hi,h=>by
   have ih:=cells_set E hj r i (by simpa using hi) (by simpa using h)
   rw [E.cells_cons,List.set_append_right _ _ (by rw [E.len,Nat.add_mul]; omega),E.len,List.set_cons_succ,E.cells_cons,← ih]
   congr 2
   rw [Nat.add_mul,Nat.one_mul]; omega
theorem own_some {w:World}{base:Nat}{e:TypeId}{size n c k:Nat}{a:Option Addr}{xs:List Value}(h:w.ownsRow base e size (.slice a n c) k xs) (h0:0<n):∃ g,a=some ⟨g,0,none⟩∧base≤g∧g<w.heap.size:=by
 rcases h.2 with ⟨hv,_⟩ | ⟨g,cap,cur,hv,hb,hg,_⟩
 ·cases hv; omega
 ·cases hv; exact⟨g,rfl,hb,lt_of_block hg⟩
theorem DkAt.row {w:World}{base n c k:Nat}{a:Option Addr}{d:Dk}(h:w.ownsRow base 55 3 (.slice a n c) k (flE.cells d.files)) (hr:rightD d=true):DkAt w a n c d∧∀ x,a=some x→base≤x.block:=by
 have hk:k=n:=by rcases h.2 with ⟨hv,h0⟩ | ⟨g,cap,cur,hv,_⟩ <;> · cases hv; (first | rfl | exact h0)
 subst hk
 obtain⟨a',c',he,h1,h2,h3,h4,h5⟩:=Enc.own_sl (E:=flE) h
 cases he
 have hcm:=own_cm h
 obtain⟨⟨a0,a1⟩,h8,b0,b1⟩:=rightD_nums hr
 refine⟨⟨h2,h4,hcm,h5,by omega,fun f hf=>?_,by omega,by omega⟩,h3⟩
 obtain⟨s1,s2⟩:=right_small hr f hf
 exact⟨by omega,by omega,by omega⟩
theorem fl_store2 {w:World}{base g n c:Nat}{L:List Fl}{k:Nat}(h:w.ownsRow base 55 3 (.slice (some ⟨g,0,none⟩) n c) n (flE.cells L)) (hk:k<L.length) (s t:ByteArray) :
 ((w.setCell ⟨g,k*3+1,none⟩ (.string s)).setCell ⟨g,k*3+2,none⟩ (.string t)).ownsRow base 55 3 (.slice (some ⟨g,0,none⟩) n c) n (flE.cells (L.set k ⟨L[k].nm,s,t⟩)) ∧
 w.grownBy ((w.setCell ⟨g,k*3+1,none⟩ (.string s)).setCell ⟨g,k*3+2,none⟩ (.string t)) (some g):=by
 obtain⟨h1,g1⟩:=h.stored (k*3+1) (.string s)
 obtain⟨h2,g2⟩:=h1.stored (k*3+2) (.string t)
 refine⟨?_,grown_trans g1 g2⟩
 have e1:(flE.cells L).set (k*3+1) (.string s)=flE.cells (L.set k ⟨L[k].nm,s,L[k].ta⟩):=Enc.cells_set flE (j:=1) (by decide) L k hk rfl
 have e2:(flE.cells (L.set k ⟨L[k].nm,s,L[k].ta⟩)).set (k*3+2) (.string t)=flE.cells ((L.set k ⟨L[k].nm,s,L[k].ta⟩).set k ⟨L[k].nm,s,t⟩):=Enc.cells_set flE (j:=2) (by decide) _ k (by simpa using hk) (by simp [flE])
 rw [e1,e2,List.set_set] at h2
 exact h2
theorem crash_round {w wr:World}{base g n c k m:Nat}{L:List Fl}{rm lf:Int}{dn:Bool}{f:Fl}(s:ByteArray) (hs:s=f.sy++f.ta.extract 0 m)
 (hW:Below w.heap.size w wr) (hP:Four wr w.heap.size 38 (.int .i64 rm) (.slice (some ⟨g,0,none⟩) n c) (.int .i64 lf) (.bool dn)) (hQ:outBox wr (w.heap.size+1))
 (hM:wr.ownsRow base 55 3 (.slice (some ⟨g,0,none⟩) n c) n (flE.cells L)) (hk:k<L.length) (hf:L[k].nm=f.nm) (hb:w.heap.size+1<g) (L':List Fl) (hL:L.set k ⟨f.nm,f.sy++f.ta.extract 0 m,⟨#[]⟩⟩=L') (W:World) (hw:W=(wr.setCell ⟨g,k*3+1,none⟩ (.string s)).setCell ⟨g,k*3+2,none⟩ (.string ⟨#[]⟩)) (q:Nat) :
 Hid (Below w.heap.size w (W.drewN q))∧Hid (Four (W.drewN q) w.heap.size 38 (.int .i64 rm) (.slice (some ⟨g,0,none⟩) n c) (.int .i64 lf) (.bool dn))∧Hid (outBox (W.drewN q) (w.heap.size+1)) ∧
  Hid ((W.drewN q).ownsRow base 55 3 (.slice (some ⟨g,0,none⟩) n c) n (flE.cells L')):=by
 subst hw hs
 obtain⟨h1,h2⟩:=fl_store2 hM hk (f.sy++f.ta.extract 0 m) ⟨#[]⟩
 rw [hf,hL] at h1
 refine⟨Lib.hid (below_drewN ((hW.setCell (by simp; omega) _).setCell (by simp; omega) _) q),Lib.hid (Four.drewN (Four.kept hP h2 (by simp; omega)) q),Lib.hid (Four.drewN (Four.kept hQ h2 (by simp; omega)) q),Lib.hid ?_⟩
 exact h1
theorem extract_zero (a:ByteArray):a.extract 0 0=⟨#[]⟩:=by
 apply ba_ext
 rw [Lib.extract_data]; simp
def crashUp (keep:List Int) (k:Nat) (l:List Fl):List Fl:=(crashF keep 0 l).take k++l.drop k
theorem crashUp_length (keep:List Int) (k:Nat) (l:List Fl):(crashUp keep k l).length=l.length:=by
 unfold crashUp
 rw [List.length_append,List.length_take,crashF_length,List.length_drop]; omega
theorem crashUp_zero (keep:List Int) (l:List Fl):crashUp keep 0 l=l:=rfl
theorem crashUp_all (keep:List Int) {k:Nat}{l:List Fl}(h:l.length≤k):crashUp keep k l=crashF keep 0 l:=by
 unfold crashUp
 rw [List.take_of_length_le (by rw [crashF_length]; exact h),List.drop_of_length_le h,List.append_nil]
theorem crashUp_at (keep:List Int) {k:Nat}{l:List Fl}(hk:k<l.length):(crashUp keep k l)[k]'(by rw [crashUp_length]; exact hk)=l[k]:=by
 unfold crashUp
 rw [List.getElem_append_right (by rw [List.length_take,crashF_length]; omega),List.getElem_drop]
 congr 1
 rw [List.length_take,crashF_length]; omega
theorem crashUp_next (keep:List Int) {k:Nat}{l:List Fl}(hk:k<l.length):(crashUp keep k l).set k ⟨l[k].nm,l[k].sy++l[k].ta.extract 0 (keepN keep k l[k]),⟨#[]⟩⟩=crashUp keep (k+1) l:=by
 have h1:=crashF_get keep 0 l k hk
 rw [Nat.zero_add] at h1
 have hl:k<(crashF keep 0 l).length:=by rw [crashF_length]; exact hk
 have h2:(crashF keep 0 l)[k]=⟨l[k].nm,l[k].sy++l[k].ta.extract 0 (keepN keep k l[k]),⟨#[]⟩⟩:=(List.getElem?_eq_some_iff.1 h1).2
 unfold crashUp
 have hlt:((crashF keep 0 l).take k).length=k:=by rw [List.length_take,crashF_length]; omega
 rw [List.set_append_right _ _ (by omega),hlt,Nat.sub_self,List.drop_eq_getElem_cons hk,List.set_cons_zero,List.take_succ_eq_append_getElem hl,h2,List.append_assoc]
 rfl
theorem keepN_none {keep:List Int}{i:Nat}(f:Fl) (h:keep.length≤i):keepN keep i f=0:=by
 unfold keepN; rw [List.getElem?_eq_none h]
theorem keepN_some {keep:List Int}{i:Nat}(f:Fl) (h:i<keep.length):keepN keep i f=min keep[i].toNat f.ta.size:=by
 unfold keepN; rw [List.getElem?_eq_getElem h]
set_option maxHeartbeats 1000000 in
theorem crash_wrong (a:Option Addr) (n c:Nat) (d:Dk) (ak:Option Addr) (nk ck:Nat) (w:World) (h:DkAt w a n c d) (hr:rightD d=false) :
 Calls Tryz.prog 29 #[d.val a n c,.slice ak nk ck] w (RetDk w (Dk.zero,1)):=by
 have hc:=Lib.hid (h.right (twoW w d a n c) (two_below w d a n c) false hr)
 have HA:=Lib.hid (two_below w d a n c)
 have HB:=Lib.hid (two_box w d a n c)
 have HO:=Lib.hid (two_out w d a n c)
 clear h hr
 unfold twoW at *
 obtain⟨rm,l,lf,dn⟩:=d
 unfold Dk.val at *
 dsimp only at *
 go_enter Tryz.func29,Tryz.ntmps29
 go_wp2_with fail
 refine hc.out.mono ?_
 rintro e w1 ⟨rfl,hb1⟩
 have HB1:=Lib.hid (below_then HA.out hb1 HA.out.size)
 have o1:=Four.keep HO.out hb1
 have e0:=o1.c0; have e1:=o1.c1; have e2:=o1.c2; have e3:=o1.c3
 have g0:=o1.free 0; have g1:=o1.free 1; have g2:=o1.free 2; have g3:=o1.free 3
 clear hb1 o1
 go_wp2_with fail
 refine bodyPost_ret (v:=.tuple #[.agg #[.int .i64 0,.slice none 0 0,.int .i64 0,.bool false],.int .i64 1]) ?_ rfl ?_
 ·rw [results_cell_tmp rfl]; go_simp
 ·exact RetDk.zero4 1 _ HB1.out (by omega)
set_option maxHeartbeats 2000000 in
theorem crash_ok (a:Option Addr) (n c:Nat) (d:Dk) (ak:Option Addr) (nk ck:Nat) (keep:List Int) (w:World) (h:DkAt w a n c d) (hk:SlAt w ak nk (i64s keep)) (hkn:nk≤100000000000000) (hr:rightD d=true) :
 Calls Tryz.prog 29 #[d.val a n c,.slice ak nk ck] w (RetDk w (crashed d keep,0)):=by
 have hc:=Lib.hid (h.right (twoW w d a n c) (two_below w d a n c) true hr)
 have HA:=Lib.hid (two_below w d a n c)
 have HB:=Lib.hid (two_box w d a n c)
 have HO:=Lib.hid (two_out w d a n c)
 have HL:=Lib.hid (crash_right hr keep)
 have HS:=Lib.hid (right_small hr)
 have HK:=Lib.hid hk
 have hn8:n≤8:=by have:=h.len; have:=(rightD_nums hr).2.1; omega
 have HN:=Lib.hid h.len
 have hcl:=Lib.hid (fun (W:World) (hb:Below w.heap.size w W)=>clone_any a n c d.files W (h.sl.keep hb) (by omega) h.cn)
 clear h hr hk
 unfold twoW at *
 obtain⟨rm,l,lf,dn⟩:=d
 unfold Dk.val at *
 dsimp only at *
 go_enter Tryz.func29,Tryz.ntmps29
 go_wp2_with fail
 refine hc.out.mono ?_
 rintro e w1 ⟨rfl,hb1⟩
 have HB1:=Lib.hid (below_then HA.out hb1 HA.out.size)
 have hz1:w.heap.size+1<w1.heap.size:=by have:=hb1.size; simp at this; omega
 have o1:=Four.keep HO.out hb1
 have p1:=Four.keep HB.out hb1
 have q0:=p1.c0; have q1:=p1.c1; have q2:=p1.c2; have q3:=p1.c3
 have O1:=Lib.hid o1
 have P1:=Lib.hid p1
 clear hb1 o1 p1
 go_wp2_with fail
 refine (hcl.out w1 HB1.out).mono ?_
 rintro e w2 ⟨v,rfl,ho⟩
 obtain⟨a2,n2,c2,rfl,-⟩:∃ a2 n2 c2,v = .slice a2 n2 c2∧True:=by
  obtain⟨a,c,rfl,_⟩:=Enc.own_sl (E:=flE) ho.1
  exact⟨_,_,_,rfl,trivial⟩
 obtain rfl:n2=n:=by
  obtain⟨a,c,e,_⟩:=Enc.own_sl (E:=flE) ho.1
  cases e
  exact HN.out
 have HR:=Lib.hid ho.1
 have HB2:=Lib.hid (below_then HB1.out ho.2 HB1.out.size)
 have o2:=Four.keep O1.out ho.2
 have p2:=Four.keep P1.out ho.2
 clear q0 q1 q2 q3
 have q0:=p2.c0; have q1:=p2.c1; have q2:=p2.c2; have q3:=p2.c3
 have f0:=p2.free 0; have f1:=p2.free 1; have f2:=p2.free 2; have f3:=p2.free 3
 have O2:=Lib.hid o2
 have P2:=Lib.hid p2
 clear ho o2 p2
 have hb2:=HB1.out
 have HW:Hid (Below w.heap.size w (w2.setCell ⟨w.heap.size,1,none⟩ (.slice a2 n2 c2))):=Lib.hid (HB2.out.setCell (by simp) _)
 have HP:Hid (Four (w2.setCell ⟨w.heap.size,1,none⟩ (.slice a2 n2 c2)) w.heap.size 38 (.int .i64 rm) (.slice a2 n2 c2) (.int .i64 lf) (.bool dn)):=Lib.hid (P2.out.set1 _)
 have HQ:Hid (outBox (w2.setCell ⟨w.heap.size,1,none⟩ (.slice a2 n2 c2)) (w.heap.size+1)):=Lib.hid (Four.kept O2.out (grown_setCell _ _ _ _) (by simp))
 have HM:Hid ((w2.setCell ⟨w.heap.size,1,none⟩ (.slice a2 n2 c2)).ownsRow w1.heap.size 55 3 (.slice a2 n2 c2) n2 (flE.cells (crashUp keep 0 l))):=Lib.hid (by
  rw [crashUp_zero]
  have h1:=HR.out
  rw [HN.out] at h1
  refine h1.kept (grown_setCell _ _ _ _) (.inr fun e=>?_)
  have:=(h1.lt _ e).1
  omega)
 clear hb2
 go_wp2_with fail
 clear q0 q1 q2 q3 f0 f1 f2 f3
 generalize (w2.setCell ⟨w.heap.size,1,none⟩ (.slice a2 n2 c2))=W2 at HW HP HQ HM ⊢
 go_loopg [6,7,8,20] n2 (fun gk v6 v7 v8 i wr=>∃ k:Nat,k≤n2∧gk=n2 - k∧i = .int .i64 (k:Int)∧Hid (Below w.heap.size w wr)∧Hid (Four wr w.heap.size 38 (.int .i64 rm) (.slice a2 n2 c2) (.int .i64 lf) (.bool dn))∧Hid (outBox wr (w.heap.size+1))∧Hid (wr.ownsRow w1.heap.size 55 3 (.slice a2 n2 c2) n2 (flE.cells (crashUp keep k l))))
 case atStart=>exact⟨0,Nat.zero_le _,rfl,rfl,HW,HP,HQ,HM⟩
 case round =>
  obtain⟨k,hk,rfl,rfl,hW,hP,hQ,hM⟩:=hrel
  clear HW HP HQ HM
  by_cases hlt:k<n2
  ·have hkl:k<l.length:=by rw [HN.out]; exact hlt
   have hkc:k<(crashUp keep k l).length:=by rw [crashUp_length]; exact hkl
   obtain⟨g,rfl,hg1,hg2⟩:=own_some hM.out (by omega)
   have c1:wr.cell? ⟨g,k*3+1,none⟩=some (.string l[k].sy):=by
    rw [hM.out.cellAt (k*3+1) (by omega)]; exact (Enc.cells_get flE _ k hkc 1 (by decide)).trans (by rw [crashUp_at keep hkl]; rfl)
   have c2':wr.cell? ⟨g,k*3+2,none⟩=some (.string l[k].ta):=by
    rw [hM.out.cellAt (k*3+2) (by omega)]; exact (Enc.cells_get flE _ k hkc 2 (by decide)).trans (by rw [crashUp_at keep hkl]; rfl)
   have z1:=hM.out.frozenAt (k*3+1)
   have z2:=hM.out.frozenAt (k*3+2)
   obtain⟨s1,s2⟩:=HS.out l[k] (List.getElem_mem hkl)
   have hgB:g≠w.heap.size:=by omega
   have p1:=hP.out
   have q1:=p1.c1
   clear p1
   have hki:(k:Int)<(n2:Int):=by omega
   have hnx:=Lib.hid (crashUp_next keep hkl)
   have hnm:=Lib.hid (congrArg Fl.nm (crashUp_at keep hkl))
   have HKC:=Lib.hid hkc
   have HKN:=Lib.hid (fun h=>keepN_none (keep:=keep) (i:=k) l[k] h)
   have HKS:=Lib.hid (fun h=>keepN_some (keep:=keep) (i:=k) l[k] h)
   generalize l[k]=o at *
   obtain⟨o0,o1,o2⟩:=o
   dsimp only at *
   obtain⟨m,hm⟩:∃ m,m=keepN keep k ⟨o0,o1,o2⟩:=⟨_,rfl⟩
   rw [← hm] at hnx HKN HKS
   clear hm
   by_cases hkk:k<nk
   ·obtain⟨x,bk,offk,hak,ck1,hms⟩:∃ (x:Int) (bk offk:Nat),ak=some ⟨bk,offk,none⟩∧wr.cell? ⟨bk,offk+k,none⟩=some (.int .i64 x)∧Hid (m=min x.toNat o2.size):=by
     obtain⟨hkl2,bk,offk,h1,hkc2⟩:=SlAt.i64 (HK.out.keep hW.out) (by omega)
     exact⟨keep[k]'(by omega),bk,offk,h1,hkc2 k (by omega),Lib.hid (HKS.out (by omega))⟩
    subst hak
    have hkki:(k:Int)<(nk:Int):=by omega
    clear HKN HKS
    go_wp2_with fail
    go_quiet (fail)
    have hmi:(if (o2.size:Int)<(if x<0 then 0 else x) then (o2.size:Int) else if x<0 then 0 else x)=(m:Int):=by
     have:=hms.out
     by_cases h1:x<0
     ·rw [if_pos h1,if_neg (by omega)]; omega
     ·rw [if_neg h1]; split <;> omega
    have hm2:(m:Int)≤(o2.size:Int):=by have:=hms.out; omega
    have hm3:m≤o2.size:=by omega
    rw [hmi]
    clear hmi
    generalize (if x<0 then 0 else x)=y
    go_wp2_with fail
    go_big_region
    go_wp2_with fail
    obtain⟨r1,r2,r3,r4⟩:=crash_round (wr:=wr.drewN nq) (f:=⟨o0,o1,o2⟩) (m:=m) (o1++o2.extract 0 m) rfl (below_drewN hW.out nq) (Four.drewN hP.out nq) (Four.drewN hQ.out nq) hM.out HKC.out hnm.out (by omega) _ hnx.out _ rfl 1
    go_roundg (n2 - (k+1))
    case rel=>exact⟨k+1,by omega,rfl,by go_num,r1,r2,r3,r4⟩
    case measure=>omega
   ·have hkki:(nk:Int)≤(k:Int):=by omega
    have hm0:m=0:=HKN.out (by have:=HK.out.1; rw [i64s_length] at this; omega)
    subst hm0
    go_wp2_with fail
    go_big_region
    go_wp2_with fail
    obtain⟨r1,r2,r3,r4⟩:=crash_round (f:=⟨o0,o1,o2⟩) (m:=0) o1 (by rw [show (⟨o0,o1,o2⟩:Fl).ta.extract 0 0=⟨#[]⟩ from extract_zero _]; exact (append_nil _).symm) hW.out hP.out hQ.out hM.out HKC.out hnm.out (by omega) _ hnx.out _ rfl 1
    go_roundg (n2 - (k+1))
    case rel=>exact⟨k+1,by omega,rfl,by go_num,r1,r2,r3,r4⟩
    case measure=>omega
  ·have hki:(n2:Int)≤(k:Int):=by omega
   have p1:=hP.out; have o1:=hQ.out
   have e0:=o1.c0; have e1:=o1.c1; have e2:=o1.c2; have e3:=o1.c3
   have g0:=o1.free 0; have g1:=o1.free 1; have g2:=o1.free 2; have g3:=o1.free 3
   have q0:=p1.c0; have q1:=p1.c1; have q2:=p1.c2; have q3:=p1.c3
   have f0:=p1.free 0; have f1:=p1.free 1; have f2:=p1.free 2; have f3:=p1.free 3
   have hsz:=hW.out.size
   clear p1 o1
   go_wp2_with fail
   refine bodyPost_ret (v:=.tuple #[.agg #[.int .i64 rm,.slice a2 n2 c2,.int .i64 (-1),.bool false],.int .i64 0]) ?_ rfl ?_
   ·rw [results_cell_tmp rfl]; go_simp
   ·have hm:=hM.out
    rw [crashUp_all keep (by have:=HN.out; omega)] at hm
    obtain⟨hd,hx⟩:=DkAt.row (d:=crashed ⟨rm,l,lf,dn⟩ keep) hm HL.out
    refine⟨a2,n2,c2,rfl,?_,?_⟩
    ·refine DkAt.sets ((hd.set ?_ _).set ?_ _) ?_ _ _ _ _
     all_goals intro x hx2 he; have:=hx x hx2; omega
    ·exact four_sets ((hW.out.setCell (by simp) _).setCell (by simp) _) (by omega) _ _ _ _
theorem crash_any (a:Option Addr) (n c:Nat) (d:Dk) (ak:Option Addr) (nk ck:Nat) (keep:List Int) (w:World) (h:DkAt w a n c d) (hk:SlAt w ak nk (i64s keep)) (hkn:nk≤100000000000000) :
 Calls Tryz.prog 29 #[d.val a n c,.slice ak nk ck] w (RetDk w (crashD d keep)):=by
 unfold crashD
 cases hr:rightD d with
 | false=>rw [if_pos rfl]; exact crash_wrong a n c d ak nk ck w h hr
 | true=>rw [if_neg (by simp)]; exact crash_ok a n c d ak nk ck keep w h hk hkn hr
end Go.Proofs.YtlpgbmaoenncjaaGreatDoor

namespace Go.Proofs.YtlpgbmaoenncjaaGreatDoor
open Go.RowKit Go.BigFrame
set_option linter.unusedVariables false
set_option maxRecDepth 100000
structure But (S:Nat→Prop) (w w':World):Prop where
 os:w'.os=w.os
 tape:w'.tape=w.tape
 output:w'.output=w.output
 size:w.heap.size≤w'.heap.size
 block:∀ i,i<w.heap.size→¬ S i→w'.heap[i]? = w.heap[i]?
theorem But.refl (S:Nat→Prop) (w:World):But S w w:=⟨rfl,rfl,rfl,Nat.le_refl _,fun _ _ _=>rfl⟩
theorem But.trans {S:Nat→Prop}{a b c:World}(h:But S a b) (k:But S b c):But S a c :=
 ⟨k.os.trans h.os,k.tape.trans h.tape,k.output.trans h.output,Nat.le_trans h.size k.size,fun i hi hs=>(k.block i (Nat.lt_of_lt_of_le hi h.size) hs).trans (h.block i hi hs)⟩
theorem But.mono {S T:Nat→Prop}{a b:World}(h:But S a b) (k:∀ i,i<a.heap.size→S i→T i):But T a b :=
 ⟨h.os,h.tape,h.output,h.size,fun i hi ht=>h.block i hi (fun hs=>ht (k i hi hs))⟩
theorem But.ofBelow {S:Nat→Prop}{a b:World}(h:Below a.heap.size a b):But S a b:=⟨h.os,h.tape,h.output,h.size,fun i hi _=>h.block i hi⟩
theorem But.ofGrown {a b:World}{row:Option Nat}(h:a.grownBy b row):But (fun i=>some i=row) a b:=⟨h.os,h.tape,h.output,h.size,fun i hi hs=>h.block i hi hs⟩
theorem But.below {S:Nat→Prop}{a b:World}{B:Nat}(h:But S a b) (hB:∀ i,S i→B≤i) (hs:B≤a.heap.size):Below B a b :=
 ⟨h.os,h.tape,h.output,h.size,fun i hi=>h.block i (by omega) (fun hs=>by have:=hB i hs; omega)⟩
theorem But.four {S:Nat→Prop}{a b:World}(h:But S a b) {B:Nat}{t:TypeId}{v0 v1 v2 v3:Value}(hf:Four a B t v0 v1 v2 v3) (hs:¬ S B):Four b B t v0 v1 v2 v3:=(h.block B (lt_of_block hf) hs).trans hf
theorem But.one {S:Nat→Prop}{a b:World}(h:But S a b) {B:Nat}{t:TypeId}{v:Value}(hf:One a B t v) (hs:¬ S B):One b B t v:=(h.block B (lt_of_block hf) hs).trans hf
theorem But.drewN {S:Nat→Prop}{a b:World}(h:But S a b) (n:Nat):But S a (b.drewN n):=⟨h.os,h.tape,h.output,h.size,h.block⟩
theorem But.setCell {S:Nat→Prop}{a b:World}(h:But S a b) (x:Addr) (hx:x.block<a.heap.size→S x.block) (v:Value):But S a (b.setCell x v) :=
 ⟨h.os,h.tape,h.output,by simpa using h.size,fun i hi hs=>(Below.heap_setCell b x v i (fun e=>hs (by subst e; exact hx hi))).trans (h.block i hi hs)⟩
def FsFn (g:Nat) (cb:Array Value) (l l':List Fl) (S:Nat→Prop) (W:World):Prop :=
 ∀ (W':World) (v:Value) (base:Nat),Below W.heap.size W W'→W.heap.size≤base→base≤W'.heap.size→W'.ownsRow base 55 3 v l.length (flE.cells l) →
  Calls Tryz.prog g (#[v]++cb) W' fun e w'=>∃ v',e = .returned v'∧w'.ownsRow base 55 3 v' l'.length (flE.cells l')∧But (fun i=>S i∨base≤i) W' w'
def RetBut (S:Nat→Prop) (w:World) (r:Dk × Int) (e:Ending) (w':World):Prop:=∃ a n c,e = .returned (.tuple #[Dk.val r.1 a n c,.int .i64 r.2])∧(But S w w'∧DkAt w' a n c r.1)∧∀ x,a=some x→w.heap.size≤x.block
theorem But.after {S:Nat→Prop}{w w1 w3:World}{base:Nat}(h:Below w.heap.size w w1) (k:But (fun i=>S i∨base≤i) w1 w3) (hB:w.heap.size≤base):But S w w3 :=
 ⟨k.os.trans h.os,k.tape.trans h.tape,k.output.trans h.output,Nat.le_trans h.size k.size,fun i hi hs=>(k.block i (Nat.lt_of_lt_of_le hi h.size) (fun e=>e.elim hs (fun e=>by omega))).trans (h.block i hi)⟩
theorem set_box {S:Nat→Prop}{w w3:World}{a3:Option Addr}{n3 c3 b o:Nat}{d:Dk}(hx:∀ p,a3=some p→w.heap.size+2≤p.block) (hb:w.heap.size≤b) (hb2:b<w.heap.size+2) (v:Value) (h:But S w w3∧DkAt w3 a3 n3 c3 d) :
 But S w (w3.setCell ⟨b,o,none⟩ v)∧DkAt (w3.setCell ⟨b,o,none⟩ v) a3 n3 c3 d :=
 ⟨h.1.setCell _ (fun e=>absurd e (by simp; omega)) v,h.2.set (fun p hp he=>by have:=hx p hp; omega) v⟩
set_option maxHeartbeats 2000000 in
theorem done_cut (a:Option Addr) (n c:Nat) (d:Dk) (g1 g2:Nat) (cb1 cb2:Array Value) (fs:List Fl) (S:Nat→Prop) (w:World) (h:DkAt w a n c d) (hn:n≤1000000)
 (hg:∀ args w,(callFunc g2 args).run Tryz.prog w = .ok (.enter g2 args) w) (hf:FsFn g2 cb2 d.files fs S w) (hS:∀ i,S i→i<w.heap.size) (hl:d.left=0) (hr:rightD ⟨d.room,fs,0,true⟩=true) :
 Calls Tryz.prog 147 #[d.val a n c,.func (.func g1) #[] cb1,.func (.func g2) #[] cb2] w (RetBut S w (⟨d.room,fs,0,true⟩,132)):=by
 have HA:=Lib.hid (two_below w d a n c)
 have HB:=Lib.hid (two_box w d a n c)
 have HO:=Lib.hid (two_out w d a n c)
 have HR:=Lib.hid hr
 have HF:=Lib.hid hf
 have HSS:=Lib.hid hS
 have hlw:=h.lw
 have hcl:=Lib.hid (fun (W:World) (hb:Below w.heap.size w W)=>clone_any a n c d.files W (h.sl.keep hb) hn h.cn)
 clear h hr hf hS
 have p1:DkBox (twoW w d a n c) w.heap.size d a n c:=HB.out
 have q0:=p1.c0; have q1:=p1.c1; have q2:=p1.c2; have q3:=p1.c3
 clear p1
 have hz:(twoW w d a n c).heap.size=w.heap.size+2:=by unfold twoW; simp
 have HZ:=Lib.hid hz
 clear hz
 unfold twoW at *
 obtain⟨rm,l,lf,dn⟩:=d
 unfold Dk.val at *
 dsimp only at *
 subst hl
 go_enter Tryz.func147,Tryz.ntmps147
 go_wp2_with fail
 refine (hcl.out _ HA.out).mono ?_
 rintro e w1 ⟨v,rfl,ho⟩
 have o2:=Four.keep HO.out ho.2
 have p2:=Four.keep HB.out ho.2
 have HB2:=Lib.hid (below_then HA.out ho.2 HA.out.size)
 have HRO:Hid (w1.ownsRow (w.heap.size+2) 55 3 v l.length (flE.cells l)):=Lib.hid (by have h1:=ho.1; rw [HZ.out] at h1; exact h1)
 have HSZ:Hid (w.heap.size+2≤w1.heap.size):=Lib.hid (by have h1:=ho.2.size; rw [HZ.out] at h1; exact h1)
 clear q0 q1 q2 q3
 have q0:=p2.c0; have q1:=p2.c1; have q2:=p2.c2; have q3:=p2.c3
 have f2:=p2.free 2
 have O2:=Lib.hid o2
 have P2:=Lib.hid p2
 clear ho o2 p2
 have HB3:=HB2
 have P3:=P2
 have O3:=O2
 have hcall:=Lib.hid (HF.out w1 v (w.heap.size+2) HB3.out (by omega) HSZ.out HRO.out)
 go_wp2_with fail
 refine hcall.out.mono ?_
 rintro e w3 ⟨v3,rfl,hrow,hbut⟩
 obtain⟨a3,n3,c3,rfl⟩:∃ a3 n3 c3,v3 = .slice a3 n3 c3:=by
  obtain⟨a,c,rfl,_⟩:=Enc.own_sl (E:=flE) hrow
  exact⟨_,_,_,rfl⟩
 obtain⟨hd3,hx3⟩:=DkAt.row (d:=⟨rm,fs,0,true⟩) hrow HR.out
 have p3:=hbut.four P3.out (by rintro (h | h); · have:=HSS.out _ h; omega
                               ·omega)
 have o3:=hbut.four O3.out (by rintro (h | h); · have:=HSS.out _ h; omega
                               ·omega)
 have HB4:=Lib.hid (But.after (S:=S) HB3.out hbut (by omega))
 have HD3:=Lib.hid hd3
 have HX3:=Lib.hid hx3
 clear q0 q1 q2 q3 f2 hd3 hx3 hbut hrow
 have e0:=o3.c0; have e1:=o3.c1; have e2:=o3.c2; have e3:=o3.c3
 have g0:=o3.free 0; have g1:=o3.free 1; have g2:=o3.free 2; have g3:=o3.free 3
 have q0:=p3.c0; have q1:=p3.c1; have q2:=p3.c2; have q3:=p3.c3
 have f0:=p3.free 0; have f1:=p3.free 1; have f2:=p3.free 2; have f3:=p3.free 3
 clear o3 p3
 go_wp2_with fail
 refine bodyPost_ret (v:=.tuple #[.agg #[.int .i64 rm,.slice a3 n3 c3,.int .i64 0,.bool true],.int .i64 132]) ?_ rfl ?_
 ·rw [results_cell_tmp rfl]; go_simp
 ·refine⟨a3,n3,c3,rfl,?_,fun p hp=>by have:=HX3.out p hp; omega⟩
  repeat (refine set_box HX3.out (by omega) (by omega) _ ?_)
  exact⟨HB4.out,HD3.out⟩
set_option maxHeartbeats 2000000 in
theorem done_dec (a:Option Addr) (n c:Nat) (d:Dk) (g1 g2:Nat) (cb1 cb2:Array Value) (fs:List Fl) (S:Nat→Prop) (w:World) (h:DkAt w a n c d) (hn:n≤1000000)
 (hg:∀ args w,(callFunc g1 args).run Tryz.prog w = .ok (.enter g1 args) w) (hf:FsFn g1 cb1 d.files fs S w) (hS:∀ i,S i→i<w.heap.size) (hl:0<d.left) (hr:rightD ⟨d.room,fs,d.left - 1,d.down⟩=true) :
 Calls Tryz.prog 147 #[d.val a n c,.func (.func g1) #[] cb1,.func (.func g2) #[] cb2] w (RetBut S w (⟨d.room,fs,d.left - 1,d.down⟩,0)):=by
 have HA:=Lib.hid (two_below w d a n c)
 have HB:=Lib.hid (two_box w d a n c)
 have HO:=Lib.hid (two_out w d a n c)
 have HR:=Lib.hid hr
 have HF:=Lib.hid hf
 have HSS:=Lib.hid hS
 have hlw:=h.lw
 have hcl:=Lib.hid (fun (W:World) (hb:Below w.heap.size w W)=>clone_any a n c d.files W (h.sl.keep hb) hn h.cn)
 clear h hr hf hS
 have p1:DkBox (twoW w d a n c) w.heap.size d a n c:=HB.out
 have q0:=p1.c0; have q1:=p1.c1; have q2:=p1.c2; have q3:=p1.c3
 clear p1
 have hz:(twoW w d a n c).heap.size=w.heap.size+2:=by unfold twoW; simp
 have HZ:=Lib.hid hz
 clear hz
 unfold twoW at *
 obtain⟨rm,l,lf,dn⟩:=d
 unfold Dk.val at *
 dsimp only at *
 have hne:(lf==0)=false:=beq_eq_false_iff_ne.2 (by omega)
 go_enter Tryz.func147,Tryz.ntmps147
 go_wp2_with fail
 refine (hcl.out _ HA.out).mono ?_
 rintro e w1 ⟨v,rfl,ho⟩
 have o2:=Four.keep HO.out ho.2
 have p2:=Four.keep HB.out ho.2
 have HB2:=Lib.hid (below_then HA.out ho.2 HA.out.size)
 have HRO:Hid (w1.ownsRow (w.heap.size+2) 55 3 v l.length (flE.cells l)):=Lib.hid (by have h1:=ho.1; rw [HZ.out] at h1; exact h1)
 have HSZ:Hid (w.heap.size+2≤w1.heap.size):=Lib.hid (by have h1:=ho.2.size; rw [HZ.out] at h1; exact h1)
 clear q0 q1 q2 q3
 have q0:=p2.c0; have q1:=p2.c1; have q2:=p2.c2; have q3:=p2.c3
 have f2:=p2.free 2
 have O2:=Lib.hid o2
 have P2:=Lib.hid p2
 clear ho o2 p2
 have HB3:=Lib.hid (HB2.out.setCell (p:=⟨w.heap.size,2,none⟩) (Nat.le_refl _) (.int .i64 (lf - 1)))
 have P3:=Lib.hid (Four.set2 P2.out (.int .i64 (lf - 1)))
 have O3:=Lib.hid (Four.kept O2.out (grown_setCell w1 w.heap.size 2 (.int .i64 (lf - 1))) (by simp))
 have hcall:=Lib.hid (HF.out (w1.setCell ⟨w.heap.size,2,none⟩ (.int .i64 (lf - 1))) v (w.heap.size+2) HB3.out (by omega) (by simpa using HSZ.out) (HRO.out.kept (grown_setCell w1 w.heap.size 2 (.int .i64 (lf - 1))) (.inr fun e=>by have:=(HRO.out.lt _ e).1; omega)))
 go_wp2_with fail
 refine hcall.out.mono ?_
 rintro e w3 ⟨v3,rfl,hrow,hbut⟩
 obtain⟨a3,n3,c3,rfl⟩:∃ a3 n3 c3,v3 = .slice a3 n3 c3:=by
  obtain⟨a,c,rfl,_⟩:=Enc.own_sl (E:=flE) hrow
  exact⟨_,_,_,rfl⟩
 obtain⟨hd3,hx3⟩:=DkAt.row (d:=⟨rm,fs,lf - 1,dn⟩) hrow HR.out
 have p3:=hbut.four P3.out (by rintro (h | h); · have:=HSS.out _ h; omega
                               ·omega)
 have o3:=hbut.four O3.out (by rintro (h | h); · have:=HSS.out _ h; omega
                               ·omega)
 have HB4:=Lib.hid (But.after (S:=S) HB3.out hbut (by omega))
 have HD3:=Lib.hid hd3
 have HX3:=Lib.hid hx3
 clear q0 q1 q2 q3 f2 hd3 hx3 hbut hrow
 have e0:=o3.c0; have e1:=o3.c1; have e2:=o3.c2; have e3:=o3.c3
 have g0:=o3.free 0; have g1:=o3.free 1; have g2:=o3.free 2; have g3:=o3.free 3
 have q0:=p3.c0; have q1:=p3.c1; have q2:=p3.c2; have q3:=p3.c3
 have f0:=p3.free 0; have f1:=p3.free 1; have f2:=p3.free 2; have f3:=p3.free 3
 clear o3 p3
 go_wp2_with fail
 refine bodyPost_ret (v:=.tuple #[.agg #[.int .i64 rm,.slice a3 n3 c3,.int .i64 (lf - 1),.bool dn],.int .i64 0]) ?_ rfl ?_
 ·rw [results_cell_tmp rfl]; go_simp
 ·refine⟨a3,n3,c3,rfl,?_,fun p hp=>by have:=HX3.out p hp; omega⟩
  repeat (refine set_box HX3.out (by omega) (by omega) _ ?_)
  exact⟨HB4.out,HD3.out⟩
set_option maxHeartbeats 2000000 in
theorem done_now (a:Option Addr) (n c:Nat) (d:Dk) (g1 g2:Nat) (cb1 cb2:Array Value) (fs:List Fl) (S:Nat→Prop) (w:World) (h:DkAt w a n c d) (hn:n≤1000000)
 (hg:∀ args w,(callFunc g1 args).run Tryz.prog w = .ok (.enter g1 args) w) (hf:FsFn g1 cb1 d.files fs S w) (hS:∀ i,S i→i<w.heap.size) (hl:d.left<0) (hr:rightD ⟨d.room,fs,d.left,d.down⟩=true) :
 Calls Tryz.prog 147 #[d.val a n c,.func (.func g1) #[] cb1,.func (.func g2) #[] cb2] w (RetBut S w (⟨d.room,fs,d.left,d.down⟩,0)):=by
 have HA:=Lib.hid (two_below w d a n c)
 have HB:=Lib.hid (two_box w d a n c)
 have HO:=Lib.hid (two_out w d a n c)
 have HR:=Lib.hid hr
 have HF:=Lib.hid hf
 have HSS:=Lib.hid hS
 have hlw:=h.lw
 have hcl:=Lib.hid (fun (W:World) (hb:Below w.heap.size w W)=>clone_any a n c d.files W (h.sl.keep hb) hn h.cn)
 clear h hr hf hS
 have p1:DkBox (twoW w d a n c) w.heap.size d a n c:=HB.out
 have q0:=p1.c0; have q1:=p1.c1; have q2:=p1.c2; have q3:=p1.c3
 clear p1
 have hz:(twoW w d a n c).heap.size=w.heap.size+2:=by unfold twoW; simp
 have HZ:=Lib.hid hz
 clear hz
 unfold twoW at *
 obtain⟨rm,l,lf,dn⟩:=d
 unfold Dk.val at *
 dsimp only at *
 have hne:(lf==0)=false:=beq_eq_false_iff_ne.2 (by omega)
 go_enter Tryz.func147,Tryz.ntmps147
 go_wp2_with fail
 refine (hcl.out _ HA.out).mono ?_
 rintro e w1 ⟨v,rfl,ho⟩
 have o2:=Four.keep HO.out ho.2
 have p2:=Four.keep HB.out ho.2
 have HB2:=Lib.hid (below_then HA.out ho.2 HA.out.size)
 have HRO:Hid (w1.ownsRow (w.heap.size+2) 55 3 v l.length (flE.cells l)):=Lib.hid (by have h1:=ho.1; rw [HZ.out] at h1; exact h1)
 have HSZ:Hid (w.heap.size+2≤w1.heap.size):=Lib.hid (by have h1:=ho.2.size; rw [HZ.out] at h1; exact h1)
 clear q0 q1 q2 q3
 have q0:=p2.c0; have q1:=p2.c1; have q2:=p2.c2; have q3:=p2.c3
 have f2:=p2.free 2
 have O2:=Lib.hid o2
 have P2:=Lib.hid p2
 clear ho o2 p2
 have HB3:=HB2
 have P3:=P2
 have O3:=O2
 have hcall:=Lib.hid (HF.out w1 v (w.heap.size+2) HB3.out (by omega) HSZ.out HRO.out)
 go_wp2_with fail
 refine hcall.out.mono ?_
 rintro e w3 ⟨v3,rfl,hrow,hbut⟩
 obtain⟨a3,n3,c3,rfl⟩:∃ a3 n3 c3,v3 = .slice a3 n3 c3:=by
  obtain⟨a,c,rfl,_⟩:=Enc.own_sl (E:=flE) hrow
  exact⟨_,_,_,rfl⟩
 obtain⟨hd3,hx3⟩:=DkAt.row (d:=⟨rm,fs,lf,dn⟩) hrow HR.out
 have p3:=hbut.four P3.out (by rintro (h | h); · have:=HSS.out _ h; omega
                               ·omega)
 have o3:=hbut.four O3.out (by rintro (h | h); · have:=HSS.out _ h; omega
                               ·omega)
 have HB4:=Lib.hid (But.after (S:=S) HB3.out hbut (by omega))
 have HD3:=Lib.hid hd3
 have HX3:=Lib.hid hx3
 clear q0 q1 q2 q3 f2 hd3 hx3 hbut hrow
 have e0:=o3.c0; have e1:=o3.c1; have e2:=o3.c2; have e3:=o3.c3
 have g0:=o3.free 0; have g1:=o3.free 1; have g2:=o3.free 2; have g3:=o3.free 3
 have q0:=p3.c0; have q1:=p3.c1; have q2:=p3.c2; have q3:=p3.c3
 have f0:=p3.free 0; have f1:=p3.free 1; have f2:=p3.free 2; have f3:=p3.free 3
 clear o3 p3
 go_wp2_with fail
 refine bodyPost_ret (v:=.tuple #[.agg #[.int .i64 rm,.slice a3 n3 c3,.int .i64 lf,.bool dn],.int .i64 0]) ?_ rfl ?_
 ·rw [results_cell_tmp rfl]; go_simp
 ·refine⟨a3,n3,c3,rfl,?_,fun p hp=>by have:=HX3.out p hp; omega⟩
  repeat (refine set_box HX3.out (by omega) (by omega) _ ?_)
  exact⟨HB4.out,HD3.out⟩
end Go.Proofs.YtlpgbmaoenncjaaGreatDoor

namespace Go.Proofs.YtlpgbmaoenncjaaGreatDoor
open Go.RowKit Go.BigFrame
set_option linter.unusedVariables false
set_option maxRecDepth 100000
theorem done_any (a:Option Addr) (n c:Nat) (d:Dk) (g1 g2:Nat) (cb1 cb2:Array Value) (now thn:List Fl) (S:Nat→Prop) (w:World) (h:DkAt w a n c d) (hn:n≤1000000)
 (hg1:∀ args w,(callFunc g1 args).run Tryz.prog w = .ok (.enter g1 args) w) (hg2:∀ args w,(callFunc g2 args).run Tryz.prog w = .ok (.enter g2 args) w) (hf1:FsFn g1 cb1 d.files now S w) (hf2:FsFn g2 cb2 d.files thn S w) (hS:∀ i,S i→i<w.heap.size)
 (hr:rightD (doneD d now thn).1=true) :
 Calls Tryz.prog 147 #[d.val a n c,.func (.func g1) #[] cb1,.func (.func g2) #[] cb2] w (RetBut S w (doneD d now thn)):=by
 unfold doneD at *
 by_cases h0:d.left=0
 ·rw [if_pos h0] at *
  exact done_cut a n c d g1 g2 cb1 cb2 thn S w h hn hg2 hf2 hS h0 hr
 ·rw [if_neg h0] at *
  unfold leftD at *
  by_cases h1:0<d.left
  ·rw [if_pos h1] at *
   exact done_dec a n c d g1 g2 cb1 cb2 now S w h hn hg1 hf1 hS h1 hr
  ·rw [if_neg h1] at *
   exact done_now a n c d g1 g2 cb1 cb2 now S w h hn hg1 hf1 hS (by omega) hr
theorem same_fs (l:List Fl) (S:Nat→Prop) (w:World):FsFn 149 #[] l l S w:=by
 intro W v base hb h0 h1 hrow
 have HR:=Lib.hid hrow
 clear hrow
 show Calls Tryz.prog 149 #[v] W _
 go_enter Tryz.func149,Tryz.ntmps149
 go_wp2_with fail
 go_ret
 exact⟨v,rfl,HR.out,But.refl _ _⟩
theorem enters_same:∀ args w,(callFunc 149 args).run Tryz.prog w = .ok (.enter 149 args) w:=enters_of Tryz.func149 (by kernel_rfl) rfl
theorem enters_sync:∀ args w,(callFunc 148 args).run Tryz.prog w = .ok (.enter 148 args) w:=enters_of Tryz.func148 (by kernel_rfl) rfl
theorem enters_write:∀ args w,(callFunc 145 args).run Tryz.prog w = .ok (.enter 145 args) w:=enters_of Tryz.func145 (by kernel_rfl) rfl
theorem enters_rename:∀ args w,(callFunc 150 args).run Tryz.prog w = .ok (.enter 150 args) w:=enters_of Tryz.func150 (by kernel_rfl) rfl
theorem enters_remove:∀ args w,(callFunc 156 args).run Tryz.prog w = .ok (.enter 156 args) w:=enters_of Tryz.func156 (by kernel_rfl) rfl
theorem own_shape {w:World}{base:Nat}{l:List Fl}{v:Value}(h:w.ownsRow base 55 3 v l.length (flE.cells l)):∃ a c,v = .slice a l.length c:=by
 obtain⟨a,c,rfl,_⟩:=Enc.own_sl (E:=flE) h
 exact⟨_,_,rfl⟩
theorem One.cell {w:World}{b:Nat}{t:TypeId}{v:Value}(h:One w b t v):w.cell? ⟨b,0,none⟩=some v:=cell_of_one h
theorem One.free {w:World}{b:Nat}{t:TypeId}{v:Value}(h:One w b t v):w.frozen? ⟨b,0,none⟩=false:=free_of_one h
theorem own_file {w:World}{base g c:Nat}{l:List Fl}{k:Nat}(h:w.ownsRow base 55 3 (.slice (some ⟨g,0,none⟩) l.length c) l.length (flE.cells l)) (hk:k<l.length) :
 w.cell? ⟨g,k*3,none⟩=some (.string l[k].nm)∧w.cell? ⟨g,k*3+1,none⟩=some (.string l[k].sy)∧w.cell? ⟨g,k*3+2,none⟩=some (.string l[k].ta)∧(∀ j,w.frozen? ⟨g,j,none⟩=false) :=
 ⟨(h.cellAt (k*3) (by omega)).trans (Enc.cells_get flE l k hk 0 (by decide)),(h.cellAt (k*3+1) (by omega)).trans (Enc.cells_get flE l k hk 1 (by decide)),(h.cellAt (k*3+2) (by omega)).trans (Enc.cells_get flE l k hk 2 (by decide)),h.frozenAt⟩
set_option maxHeartbeats 2000000 in
theorem sync_fs (l:List Fl) (k B:Nat) (S:Nat→Prop) (w:World) (hk:k<l.length) (h8:l.length≤1000000) (ho:One w B 3 (.int .i64 (k:Int))) (hs:l[k].sy.size+l[k].ta.size≤1048576) :
 FsFn 148 #[.pointer (some ⟨B,0,none⟩)] l (l.set k ⟨l[k].nm,l[k].sy++l[k].ta,⟨#[]⟩⟩) S w:=by
 intro W v base hb h0 h1 hrow
 show Calls Tryz.prog 148 #[v,.pointer (some ⟨B,0,none⟩)] W _
 obtain⟨a,c,rfl⟩:=own_shape hrow
 obtain⟨g,rfl,hg1,hg2⟩:=own_some hrow (by omega)
 obtain⟨c0,c1,c2,hz⟩:=own_file hrow hk
 have z1:=hz (k*3+1)
 have z2:=hz (k*3+2)
 have hBl:=ho.lt
 have hcB:W.cell? ⟨B,0,none⟩=some (.int .i64 (k:Int)):=(ho.below hb).cell
 have HST:=Lib.hid (fun s t=>fl_store2 hrow hk s t)
 obtain⟨n,hn⟩:∃ n,n=l.length:=⟨_,rfl⟩
 have hki:(k:Int)<(n:Int):=by omega
 have HN:=Lib.hid hn
 have hn8:n≤1000000:=by omega
 rw [← hn] at HST ⊢
 clear hrow hz hn ho
 have hlen:Hid ((l.set k ⟨l[k].nm,l[k].sy++l[k].ta,⟨#[]⟩⟩).length=n):=Lib.hid (by rw [List.length_set]; exact HN.out.symm)
 have HEQ:Hid (l.set k ⟨l[k].nm,l[k].sy++l[k].ta,⟨#[]⟩⟩=l.set k ⟨l[k].nm,l[k].sy++l[k].ta,⟨#[]⟩⟩):=Lib.hid rfl
 generalize hl':l.set k ⟨l[k].nm,l[k].sy++l[k].ta,⟨#[]⟩⟩=L at hlen HEQ ⊢
 have HL':=Lib.hid hl'
 clear hl'
 generalize l[k]=o at *
 obtain⟨o0,o1,o2⟩:=o
 dsimp only at *
 go_enter Tryz.func148,Tryz.ntmps148
 go_wp2_with fail
 go_big_region
 go_wp2_with fail
 go_ret
 obtain⟨r1,r2⟩:=HST.out (o1++o2) ⟨#[]⟩
 refine⟨_,rfl,?_,?_⟩
 ·rw [hlen.out,← HL'.out]
  exact r1
 ·exact (But.ofGrown r2).mono (fun i hi e=>.inr (by cases e; exact hg1)) |>.drewN 1
theorem But.none {w w':World}(h:But (fun _=>False) w w'):Below w.heap.size w w':=h.below (fun _ h=>h.elim) (Nat.le_refl _)
theorem ret_out {w W:World}{S:Nat→Prop}{b:Nat}{w3:World}{a3:Option Addr}{n3 c3:Nat}{r:Dk × Int}(hW:Below w.heap.size w W) (hS:∀ i,S i→w.heap.size≤i) (h:But S W w3∧DkAt w3 a3 n3 c3 r.1) (hx:∀ x,a3=some x→W.heap.size≤x.block) (hb:w.heap.size≤b) (hb2:b<W.heap.size) (u0 u1 u2 u3:Value) :
 RetDk w r (.returned (.tuple #[Dk.val r.1 a3 n3 c3,.int .i64 r.2])) ((((w3.setCell ⟨b,0,none⟩ u0).setCell ⟨b,1,none⟩ u1).setCell ⟨b,2,none⟩ u2).setCell ⟨b,3,none⟩ u3):=by
 refine⟨a3,n3,c3,rfl,DkAt.sets h.2 (fun x hx2 e=>?_) _ _ _ _,?_⟩
 ·have:=hx x hx2; omega
 ·exact four_sets (hW.trans (h.1.below hS hW.size)) hb _ _ _ _
end Go.Proofs.YtlpgbmaoenncjaaGreatDoor

namespace Go.Proofs.YtlpgbmaoenncjaaGreatDoor
open Go.RowKit Go.BigFrame
set_option linter.unusedVariables false
set_option maxRecDepth 100000
set_option maxHeartbeats 2000000 in
theorem sync_any (a:Option Addr) (n c:Nat) (d:Dk) (nm:ByteArray) (w:World) (h:DkAt w a n c d) (hs:nm.size≤maxLen) :
 Calls Tryz.prog 103 #[d.val a n c,.string nm] w (RetDk w (syncD d nm)):=by
 have hmf:∀ fn first cap w,(Instr.makeFunc fn first cap).run Tryz.prog w = .ok (.func fn first cap) w:=fun _ _ _ _=>rfl
 have HA:=Lib.hid (two_below w d a n c)
 have HB:=Lib.hid (two_box w d a n c)
 have HO:=Lib.hid (two_out w d a n c)
 have H:=Lib.hid h
 have hnb:=h.nb
 obtain⟨r0,hr0⟩:∃ r0,r0=readyD d [nm]:=⟨_,rfl⟩
 have hr:=Lib.hid (ready_one a n c d nm w _ h (two_below w d a n c) hs (w.heap.size+2) (by unfold twoW; simp) r0 (Lib.hid hr0))
 obtain⟨k0,hk0⟩:∃ k0,k0=atL d.files nm:=⟨_,rfl⟩
 have hf:=Lib.hid (fun (W:World) (hb:Below w.heap.size w W)=>find_any a n c d.files nm W (h.sl.keep hb) hnb k0 (Lib.hid hk0))
 have hright:=sync_right (d:=d) (nm:=nm)
 obtain⟨r,hre⟩:∃ r,r=syncD d nm:=⟨_,rfl⟩
 rw [← hre] at hright ⊢
 have hre2:=hre
 unfold syncD at hre2
 rw [← hr0,← hk0] at hre2
 clear h
 by_cases hz:r0=0
 ·subst hz
  rw [if_neg (by simp)] at hre2
  by_cases hk:k0<0
  ·rw [if_pos hk] at hre2
   clear hr0 hk0 hre hright
   subst hre2
   unfold twoW at *
   obtain⟨rm,l,lf,dn⟩:=d
   unfold Dk.val at *
   dsimp only at *
   go_enter Tryz.func103,Tryz.ntmps103
   go_wp2_with fail
   refine hr.out.mono ?_
   rintro e w1 ⟨rfl,hb1⟩
   have HB1:=Lib.hid (below_then HA.out hb1 HA.out.size)
   have hB1:=HB.out.keep hb1
   have o1:=Four.keep HO.out hb1
   have q0:=hB1.c0; have q1:=hB1.c1; have q2:=hB1.c2; have q3:=hB1.c3
   have O1:=Lib.hid o1
   have P1:=Lib.hid hB1
   have hz1:w.heap.size+1<w1.heap.size:=by have:=hb1.size; simp at this; omega
   clear hB1 o1 hb1
   go_wp2_with fail
   refine (hf.out w1 HB1.out).mono ?_
   rintro e w2 ⟨rfl,hb2⟩
   have HB2:=Lib.hid ((below_then HB1.out hb2 HB1.out.size).alloc (below_then HB1.out hb2 HB1.out.size).size (.cells #[.int .i64 k0] 3))
   have o2:=(Four.keep O1.out hb2).alloc (.cells #[.int .i64 k0] 3)
   have e0:=o2.c0; have e1:=o2.c1; have e2:=o2.c2; have e3:=o2.c3
   have g0:=o2.free 0; have g1:=o2.free 1; have g2:=o2.free 2; have g3:=o2.free 3
   clear o2 hb2 q0 q1 q2 q3
   go_wp2_with fail
   refine bodyPost_ret (v:=.tuple #[.agg #[.int .i64 0,.slice none 0 0,.int .i64 0,.bool false],.int .i64 60]) ?_ rfl ?_
   ·rw [results_cell_tmp rfl]; go_simp
   ·exact RetDk.zero4 60 _ HB2.out (by omega)
  ·rw [if_neg hk] at hre2
   have hrd:=(ready_parts hr0.symm)
   rw [hk0] at hk
   obtain⟨j,hj,hj1,hj2,hj3⟩:=atL_lt hk
   rw [hj1] at hk0
   subst hk0
   have hln:=H.out.len
   have h8:=(rightD_nums hrd.1).2.1
   have hsm:=right_small hrd.1 d.files[j] (List.getElem_mem hj)
   have hpl:synced d.files nm=d.files.set j ⟨d.files[j].nm,d.files[j].sy++d.files[j].ta,⟨#[]⟩⟩:=by unfold synced; rw [hj3,withF_set (rightD_fs hrd.1).2 hj (by exact hj2.symm),hj2]
   rw [hre2] at hright
   have hdone:=Lib.hid (fun (W:World) (B:Nat) (hb:Below w.heap.size w W) (ho:One W B 3 (.int .i64 (j:Int)))=>by
    have:=done_any a n c d 148 149 #[.pointer (some ⟨B,0,none⟩)] #[] _ d.files (fun _=>False) W (H.out.keep hb) (by omega) enters_sync enters_same (hpl ▸ sync_fs d.files j B _ W hj (by omega) ho hsm.2) (same_fs _ _ _) (fun _ h=>h.elim) hright
    rw [← hre2] at this
    exact this)
   have hjn:¬ ((j:Int)<0):=by omega
   clear hr0 hre hright hre2 hrd hk hj1 hj2 hj3 h8 hsm hpl hln
   unfold twoW at *
   obtain⟨rm,l,lf,dn⟩:=d
   unfold Dk.val at *
   dsimp only at *
   go_enter Tryz.func103,Tryz.ntmps103
   go_wp2_with fail
   refine hr.out.mono ?_
   rintro e w1 ⟨rfl,hb1⟩
   have HB1:=Lib.hid (below_then HA.out hb1 HA.out.size)
   have hB1:=HB.out.keep hb1
   have o1:=Four.keep HO.out hb1
   have q0:=hB1.c0; have q1:=hB1.c1; have q2:=hB1.c2; have q3:=hB1.c3
   have O1:=Lib.hid o1
   have P1:=Lib.hid hB1
   have hz1:w.heap.size+1<w1.heap.size:=by have:=hb1.size; simp at this; omega
   clear hB1 o1 hb1
   go_wp2_with fail
   refine (hf.out w1 HB1.out).mono ?_
   rintro e w2 ⟨rfl,hb2⟩
   have HB2:=Lib.hid ((below_then HB1.out hb2 HB1.out.size).alloc (below_then HB1.out hb2 HB1.out.size).size (.cells #[.int .i64 (j:Int)] 3))
   have O2:=Lib.hid ((Four.keep O1.out hb2).alloc (.cells #[.int .i64 (j:Int)] 3))
   have p2:=(Four.keep P1.out hb2).alloc (.cells #[.int .i64 (j:Int)] 3)
   have hone:=One.new w2 3 (.int .i64 (j:Int))
   have hsz2:w1.heap.size≤w2.heap.size:=hb2.size
   clear hb2 q0 q1 q2 q3
   have q0:=p2.c0; have q1:=p2.c1; have q2:=p2.c2; have q3:=p2.c3
   have hc9:=hdone.out _ _ HB2.out hone
   have HC9:=Lib.hid hc9
   clear hc9 hone p2
   go_wp2_with fail
   refine HC9.out.mono ?_
   rintro e w3 ⟨a3,n3,c3,rfl,hbd,hx3⟩
   obtain⟨⟨rm3,l3,lf3,dn3⟩,x3⟩:=r
   have o2:=hbd.1.four O2.out (fun h=>h)
   have HBD:=Lib.hid hbd
   have HX3:=Lib.hid hx3
   clear hbd hx3 q0 q1 q2 q3
   have e0:=o2.c0; have e1:=o2.c1; have e2:=o2.c2; have e3:=o2.c3
   have g0:=o2.free 0; have g1:=o2.free 1; have g2:=o2.free 2; have g3:=o2.free 3
   clear o2
   unfold Dk.val
   dsimp only
   go_wp2_with fail
   refine bodyPost_ret (v:=.tuple #[.agg #[.int .i64 rm3,.slice a3 n3 c3,.int .i64 lf3,.bool dn3],.int .i64 x3]) ?_ rfl ?_
   ·rw [results_cell_tmp rfl]; go_simp
   ·exact ret_out (r:=(⟨rm3,l3,lf3,dn3⟩,x3)) HB2.out (fun _ h=>h.elim) HBD.out HX3.out (by omega) (by simp; omega) _ _ _ _
 ·rw [if_pos hz] at hre2
  have hne:(r0 != 0)=true:=bne_iff_ne.2 hz
  clear hr0 hk0 hre hright hf hz
  subst hre2
  unfold twoW at *
  obtain⟨rm,l,lf,dn⟩:=d
  unfold Dk.val at *
  dsimp only at *
  go_enter Tryz.func103,Tryz.ntmps103
  go_wp2_with fail
  refine hr.out.mono ?_
  rintro e w1 ⟨rfl,hb1⟩
  have HB1:=Lib.hid (below_then HA.out hb1 HA.out.size)
  have hB1:=HB.out.keep hb1
  have o1:=Four.keep HO.out hb1
  have q0:=hB1.c0; have q1:=hB1.c1; have q2:=hB1.c2; have q3:=hB1.c3
  have O1:=Lib.hid o1
  have P1:=Lib.hid hB1
  have hz1:w.heap.size+1<w1.heap.size:=by have:=hb1.size; simp at this; omega
  clear hB1 o1 hb1
  have o2:=O1.out
  have e0:=o2.c0; have e1:=o2.c1; have e2:=o2.c2; have e3:=o2.c3
  have g0:=o2.free 0; have g1:=o2.free 1; have g2:=o2.free 2; have g3:=o2.free 3
  clear o2 q0 q1 q2 q3
  go_wp2_with fail
  refine bodyPost_ret (v:=.tuple #[.agg #[.int .i64 0,.slice none 0 0,.int .i64 0,.bool false],.int .i64 r0]) ?_ rfl ?_
  ·rw [results_cell_tmp rfl]; go_simp
  ·exact RetDk.zero4 r0 _ HB1.out (by omega)
end Go.Proofs.YtlpgbmaoenncjaaGreatDoor

/-
  The walk of wal.has: whether a disk has a file of a name.
  The walks of wal.cut and of the reference's Pieces: a text, cut behind each 60000 bytes.
  The walks of wal.all and of the reference's Whole: the frames of a state that may be.
  The walk of the reference's call: a call on a disk; where it is refused the disk stays.
  A disk that is laid in a new box by a region that draws its order.
  The reference's Anew: the region that writes a whole.
  The walk of wal.anew: a state is written anew.
-/
import Derived.Test.YtlpgbmaoenncjaaGreatDoorWsOne
import Derived.Test.YtlpgbmaoenncjaaGreatDoorDkTwo
import Derived.Test.YtlpgbmaoenncjaaGreatDoorWvAll
import Derived.Test.YtlpgbmaoenncjaaGreatDoorWsT
import Derived.Test.YtlpgbmaoenncjaaGreatDoorDkFour
import Derived.Test.YtlpgbmaoenncjaaGreatDoorRegV
namespace Go.Proofs.YtlpgbmaoenncjaaGreatDoor
open Go.RowKit
set_option linter.unusedVariables false
set_option maxRecDepth 100000
set_option maxHeartbeats 400000 in
theorem hasFile_any (f:Fl) (nm:ByteArray) (B:Nat) (w:World) (hB:w.cell? ⟨B,0,none⟩=some (.string nm)) (v:Bool) (hv:Hid ((f.nm.toList==nm.toList)=v)) :
 Calls Tryz.prog 99 #[.agg #[.string f.nm,.string f.sy,.string f.ta],.pointer (some ⟨B,0,none⟩)] w fun e w'=>e = .returned (.bool v)∧Below w.heap.size w w':=by
 obtain⟨x,y,z⟩:=f
 have hv:(x.toList==nm.toList)=v:=hv.out
 have g:=cell_keep ((Below.refl w.heap.size w).alloc (Nat.le_refl _) (.cells #[.string x,.string y,.string z] 55)) hB
 have hne:B≠w.heap.size:=fun e=>by
  subst e
  unfold World.cell? at hB
  simp at hB
 go_enter Tryz.func99,Tryz.ntmps99
 go_wp2
 go_ret
 exact⟨rfl,(Below.refl _ _).alloc (Nat.le_refl _) _⟩
set_option maxHeartbeats 1000000 in
theorem hasIdx_any (a:Option Addr) (n c:Nat) (l:List Fl) (nm:ByteArray) (B:Nat) (w:World) (h:flE.Sl w a n l) (hn:n≤4398046511104) (hB:w.cell? ⟨B,0,none⟩=some (.string nm)) :
 Calls Tryz.prog 144 #[.slice a n c,.func (.func 99) #[] #[.pointer (some ⟨B,0,none⟩)]] w fun e w'=>e = .returned (.int .i64 (atL l nm))∧Below w.heap.size w w':=by
 have hlen:n=l.length:=h.1
 have HN:=Lib.hid hlen
 have HSL:=Lib.hid h
 have HCB:=Lib.hid hB
 obtain⟨r,hr⟩:∃ r,r=atL l nm:=⟨_,rfl⟩
 rw [← hr]
 have HR:=Lib.hid hr
 clear h hlen hB hr
 go_enter Tryz.func144,Tryz.ntmps144
 go_wp2
 go_loopg [5,8] n (fun gk v5 i wr=>∃ (k:Nat),k≤n∧gk=n - k∧i = .int .i64 (k:Int)∧Hid (Below w.heap.size w wr)∧Hid (∀ j (h:j<l.length),j<k→l[j].nm≠nm))
 case atStart=>exact⟨0,Nat.zero_le _,rfl,rfl,Lib.hid (Below.refl _ _),Lib.hid (fun j h hj=>absurd hj (Nat.not_lt_zero _))⟩
 case round =>
  obtain⟨k,hk,rfl,rfl,hW,hall⟩:=hrel
  by_cases hlt:k<n
  ·have hkd:k<l.length:=by rw [← HN.out]; exact hlt
   obtain⟨-,b,off,rfl,hcells⟩:=fl_at (HSL.out.keep hW.out) (by omega)
   obtain⟨c0,c1,c2⟩:=hcells k hkd
   have hki:(k:Int)<(n:Int):=by omega
   have hop:=Lib.hid (fun (v:Bool) (hv:Hid ((l[k].nm.toList==nm.toList)=v))=>hasFile_any l[k] nm B wr (cell_keep hW.out HCB.out) v hv)
   clear hcells
   by_cases hq:l[k].nm=nm
   ·have HV:=Lib.hid (atL_hit hkd hq hall.out)
    have hc:=Lib.hid (hop.out true (Lib.hid (toList_yes hq)))
    clear hop hall hq
    generalize l[k]=o at *
    obtain⟨o0,o1,o2⟩:=o
    go_wp2_with fail
    refine hc.out.mono ?_
    rintro e w1 ⟨rfl,hb1⟩
    have HB:=Lib.hid (below_then hW.out hb1 hW.out.size)
    clear hb1
    go_wp2_with fail
    go_ret
    exact⟨ret_int (by rw [HR.out,HV.out]),HB.out⟩
   ·have hc:=Lib.hid (hop.out false (Lib.hid (toList_ne hq)))
    have hall2:Hid (∀ j (h:j<l.length),j<k+1→l[j].nm≠nm):=Lib.hid fun j h hj=>by
     by_cases hjk:j=k
     ·subst hjk; exact hq
     ·exact hall.out j h (by omega)
    clear hop hall hq
    generalize l[k]=o at *
    obtain⟨o0,o1,o2⟩:=o
    go_wp2_with fail
    refine hc.out.mono ?_
    rintro e w1 ⟨rfl,hb1⟩
    have HB:=Lib.hid (below_then hW.out hb1 hW.out.size)
    clear hb1
    go_wp2_with fail
    go_roundg (n - (k+1))
    case rel=>exact⟨k+1,by omega,rfl,by go_num,HB,hall2⟩
    case measure=>omega
  ·have HV:=Lib.hid (atL_miss (l:=l) (nm:=nm) (fun j h=>hall.out j h (by have:=HN.out; omega)))
   have hki:(n:Int)≤(k:Int):=by omega
   clear hall
   go_wp2_with fail
   go_ret
   exact⟨ret_int (by rw [HR.out,← HV.out]),hW.out⟩
def hasB (d:Dk) (nm:ByteArray):Bool:=decide (0≤atL d.files nm)
set_option maxHeartbeats 400000 in
theorem hasFunc_any (a:Option Addr) (n c:Nat) (l:List Fl) (nm:ByteArray) (B:Nat) (w:World) (h:flE.Sl w a n l) (hn:n≤4398046511104) (hB:w.cell? ⟨B,0,none⟩=some (.string nm)) :
 Calls Tryz.prog 98 #[.slice a n c,.func (.func 99) #[] #[.pointer (some ⟨B,0,none⟩)]] w fun e w'=>e = .returned (.bool (decide (0≤atL l nm)))∧Below w.heap.size w w':=by
 have H:=Lib.hid (hasIdx_any a n c l nm B w h hn hB)
 obtain⟨r,hr⟩:∃ r,r=atL l nm:=⟨_,rfl⟩
 rw [← hr] at H ⊢
 clear h hn hB hr
 go_enter Tryz.func98,Tryz.ntmps98
 go_wp2_with fail
 refine H.out.mono ?_
 rintro e w1 ⟨rfl,hb1⟩
 by_cases hz:0≤r
 ·have HZ:=Lib.hid hz
  go_wp2_with fail
  go_ret
  exact⟨ret_bool (by simp [HZ.out]),hb1⟩
 ·have HZ:=Lib.hid hz
  have hz2:r<0:=by omega
  clear hz
  go_wp2_with fail
  go_ret
  exact⟨ret_bool (by simp),hb1⟩
set_option maxHeartbeats 400000 in
theorem has_any (a:Option Addr) (n c:Nat) (d:Dk) (nm:ByteArray) (w:World) (h:DkAt w a n c d) (v:Bool) (hv:Hid (v=hasB d nm)) :
 Calls Tryz.prog 51 #[d.val a n c,.string nm] w fun e w'=>e = .returned (.bool v)∧Below w.heap.size w w':=by
 have hmf:∀ fn first cap w,(Instr.makeFunc fn first cap).run Tryz.prog w = .ok (.func fn first cap) w:=fun _ _ _ _=>rfl
 obtain⟨r,l,lf,dn⟩:=d
 have hA:Below w.heap.size w ((w.alloc (.cells #[.int .i64 r,.slice a n c,.int .i64 lf,.bool dn] 38)).alloc (.cells #[.string nm] 9)):=((Below.refl _ w).alloc (Nat.le_refl _) _).alloc (by simp) _
 have hz:=cell_new (w:=w.alloc (.cells #[.int .i64 r,.slice a n c,.int .i64 lf,.bool dn] 38)) (T:=9) (cs:=#[.string nm]) 0 (v:=.string nm) rfl
 rw [World.size_alloc] at hz
 have H:=Lib.hid (hasFunc_any a n c l nm (w.heap.size+1) _ (h.sl.keep hA) h.nb hz)
 have hv:v=decide (0≤atL l nm):=hv.out
 rw [← hv] at H
 have HA:=Lib.hid hA
 clear h hA hz hv
 unfold Dk.val
 dsimp only
 go_enter Tryz.func51,Tryz.ntmps51
 go_wp2_with fail
 refine H.out.mono ?_
 rintro e w1 ⟨rfl,hb1⟩
 have HB:=Lib.hid (below_then HA.out hb1 HA.out.size)
 clear hb1
 go_wp2_with fail
 go_ret
 exact⟨rfl,HB.out⟩
end Go.Proofs.YtlpgbmaoenncjaaGreatDoor

namespace Go.Proofs.YtlpgbmaoenncjaaGreatDoor
open Go.RowKit
set_option linter.unusedVariables false
set_option maxRecDepth 100000
def StrsP (w:World) (l:List ByteArray) (e:Ending) (w':World):Prop :=
 ∃ a n c,e = .returned (.slice a n c)∧SlAt w' a n (strs l)∧Below w.heap.size w w'∧(∀ x,a=some x→w.heap.size≤x.block)∧n≤c
def CutAt (s0:ByteArray) (l:List ByteArray) (s:ByteArray):Prop:=piecesB s0=l++piecesB s∧s.size≤s0.size∧l.length+s.size≤s0.size
theorem CutAt.start (s:ByteArray):CutAt s [] s:=by
 unfold CutAt
 refine And.intro ?_ (And.intro (Nat.le_refl _) ?_)
 ·rw [List.nil_append]
 ·rw [List.length_nil]; omega
theorem CutAt.step {s0 s:ByteArray}{l:List ByteArray}(h:CutAt s0 l s) (h6:60000<s.size):CutAt s0 (l++[s.extract 0 60000]) (s.extract 60000 s.size):=by
 refine⟨by rw [h.1,pieces_long h6,List.append_assoc,List.singleton_append],?_,?_⟩
 ·rw [ByteArray.size_extract]; have:=h.2.1; omega
 ·rw [ByteArray.size_extract,List.length_append]; have:=h.2.2; simp; omega
theorem CutAt.done {s0 s:ByteArray}{l:List ByteArray}(h:CutAt s0 l s) (h6:s.size≤60000):piecesB s0=l++[s]:=by rw [h.1,pieces_short h6]
set_option maxHeartbeats 1000000 in
theorem wcut_any (s0:ByteArray) (w:World) (hs:s0.size≤4000000) :
 Calls Tryz.prog 118 #[.string s0] w (StrsP w (piecesB s0)):=by
 obtain⟨i0,hi,hz0,hz1,hz2⟩:=info_parts infoStr
 have HS:=Lib.hid hs
 clear hs
 go_enter Tryz.func118,Tryz.ntmps118
 go_wp2_with fail
 go_loopg [0,3] s0.size (fun gk v0 v3 wr=>∃ (l:List ByteArray) (s:ByteArray),gk=s.size∧v0 = .string s∧Hid (CutAt s0 l s)∧Hid (wr.ownsRow w.heap.size 9 1 v3 l.length (strs l))∧Hid (Below w.heap.size w wr))
 case atStart=>exact⟨[],s0,rfl,rfl,CutAt.start s0,World.ownsRow_nil _ _ _ _,Below.refl _ _⟩
 case round =>
  obtain⟨l,s,rfl,rfl,hC,hO,hW⟩:=hrel
  have hsz:=hC.out.2.2
  have hs0:=HS.out
  have hown:=hO.out
  have hbz:=hW.out.size
  by_cases h6:60000<s.size
  ·have h6i:(60000:Int)<(s.size:Int):=by omega
   have h6j:(60000:Int)≤(s.size:Int):=by omega
   have HC2:=Lib.hid (hC.out.step h6)
   clear hC
   go_wp2_with (at_builtin; refine wpList_app1 wr rfl _ _ 86 rfl w.heap.size 9 i0 (.string ⟨#[]⟩) 16 Tryz.underlying86 hi hz0 hz1 hz2 rfl _ _ _ hown rfl (.string (s.extract 0 60000)) 9 rfl rfl ?c3 ?c4 ?c5 ?_)
   case c3=>unfold maxLen; omega
   case c4=>omega
   case c5=>omega
   intro v' w3 hown' hgrow hblk
   have ho2:w3.ownsRow w.heap.size 9 1 v' (l++[s.extract 0 60000]).length (strs (l++[s.extract 0 60000])):=by
    rw [strs_snoc,List.length_append]; exact hown'
   have HO2:=Lib.hid ho2
   have HW2:Hid (Below w.heap.size w w3):=Lib.hid (hW.out.grown hgrow hbz (fun x e=>(hown.lt x e).1))
   clear hown' hgrow hown ho2 hblk hO hW
   go_wp2_with fail
   go_roundg (s.extract 60000 s.size).size
   case rel=>exact⟨_,s.extract 60000 s.size,rfl,rfl,HC2,HO2,HW2⟩
   case measure=>rw [ByteArray.size_extract]; omega
  ·have h6i:(s.size:Int)≤60000:=by omega
   have HC2:=Lib.hid (hC.out.done (by omega))
   clear hC h6
   go_wp2_with (at_builtin; refine wpList_app1 wr rfl _ _ 86 rfl w.heap.size 9 i0 (.string ⟨#[]⟩) 16 Tryz.underlying86 hi hz0 hz1 hz2 rfl _ _ _ hown rfl (.string s) 9 rfl rfl ?c3 ?c4 ?c5 ?_)
   case c3=>unfold maxLen; omega
   case c4=>omega
   case c5=>omega
   intro v' w3 hown' hgrow hblk
   have ho2:w3.ownsRow w.heap.size 9 1 v' (l++[s]).length (strs (l++[s])):=by
    rw [strs_snoc,List.length_append]; exact hown'
   have HO2:=Lib.hid ho2
   have HW2:Hid (Below w.heap.size w w3):=Lib.hid (hW.out.grown hgrow hbz (fun x e=>(hown.lt x e).1))
   clear hown' hgrow hown ho2 hblk hO hW
   go_wp2_with fail
   go_ret
   obtain⟨a,n,c,hv,hsl,hfr,hnc⟩:=own_slice HO2.out
   subst hv
   exact⟨a,n,c,rfl,by rw [HC2.out]; exact hsl,HW2.out,hfr,hnc⟩
end Go.Proofs.YtlpgbmaoenncjaaGreatDoor

namespace Go.Proofs.YtlpgbmaoenncjaaGreatDoor
open Go.RowKit
set_option linter.unusedVariables false
set_option maxRecDepth 100000
theorem fold_size:∀ (l:List ByteArray) (a:ByteArray),(∀ p∈l,p.size≤60000)→(l.foldl (fun o p=>o++frameOf p) a).size≤a.size+l.length*60012
 | [],a,_=>by simp
 | p :: l,a,h=>by
   rw [List.foldl_cons]
   have h1:=fold_size l (a++frameOf p) (fun q hq=>h q (List.mem_cons_of_mem _ hq))
   have h2:=h p (List.mem_cons_self ..)
   rw [ByteArray.size_append,frameOf_size] at h1
   simp only [List.length_cons]
   omega
theorem num_at (w:World) (S:Nat→Prop) (n:Int):V.At w S (numV n) [.int .i64 1,.int .i64 n,.string ⟨#[]⟩,.slice none 0 0]:=by
 simp only [numV,V.At,VAll]
 exact⟨none,0,rfl,Nat.le_refl _,fun _=>rfl,trivial⟩
def outK (s:ByteArray) (k:Nat):ByteArray:=((piecesB s).take k).foldl (fun o p=>o++frameOf p) (frameOf (putGot (numV ((piecesB s).length:Int))).1)
theorem outK_all (s:ByteArray):outK s (piecesB s).length=wholeB s:=by
 unfold outK wholeB
 rw [List.take_length]
theorem outK_succ {s:ByteArray}{k:Nat}(h:k<(piecesB s).length):outK s (k+1)=outK s k++frameOf (piecesB s)[k]:=by
 unfold outK
 rw [List.take_succ_eq_append_getElem h,List.foldl_append]
 rfl
theorem outK_size {s:ByteArray}(hs:s.size≤131072) (k:Nat):(outK s k).size≤200000:=by
 obtain⟨b,hb,hbs,-⟩:=count_got (pieces_pos s) (pieces_few hs)
 have h1:=fold_size ((piecesB s).take k) (frameOf (putGot (numV ((piecesB s).length:Int))).1) (fun p hp=>pieces_size s p (List.mem_of_mem_take hp))
 have h2:=pieces_few hs
 have h3:((piecesB s).take k).length≤(piecesB s).length:=by rw [List.length_take]; omega
 rw [frameOf_size,hb] at h1
 unfold outK
 rw [hb]
 dsimp only at h1 ⊢
 omega
theorem wholeB_size {s:ByteArray}(hs:s.size≤131072):(wholeB s).size≤200000:=by rw [← outK_all]; exact outK_size hs _
set_option maxHeartbeats 2000000 in
theorem wall_any (h:Hd) (ar:Option Addr) (nr cr:Nat) (av:Option Addr) (nv cv:Nat) (w:World) (H:HdAt w h ar nr cr av nv cv) (htab:Lib.TabIs Tryz.prog w "internal/strconv.uint64pow10" .u64 Lib.pow10Tab) (hr:rightH h=true) :
 Calls Tryz.prog 100 #[h.val ar nr cr av nv cv] w fun e w'=>e = .returned (.string (wholeB (putH h).1))∧Below w.heap.size w w':=by
 obtain⟨i0,hi,hz0,hz1,hz2⟩:=info_parts infoStr
 have HT:=Lib.hid (Lib.tabBelow_of_tabIs htab)
 have hz:=putH_size hr
 obtain⟨s0,hs0⟩:∃ s0,s0=(putH h).1:=⟨_,rfl⟩
 have HPUT:Hid (∀ W,Below w.heap.size w W→Calls Tryz.prog 25 #[h.val ar nr cr av nv cv] W fun e w'=>e = .returned (.tuple #[.string s0,.int .i64 0])∧Below W.heap.size W w') :=
  Lib.hid fun W hb=>wput_any h ar nr cr av nv cv W (H.keep hb) (HT.out _ hb) (s0,0) (Lib.hid (by rw [hs0]; exact (rightH_put hr).symm))
 rw [← hs0] at hz ⊢
 obtain⟨nb,hnb,hnbs,-⟩:=count_got (pieces_pos s0) (pieces_few hz)
 have HCP:Hid (∀ W,Below w.heap.size w W→Calls Tryz.prog 36 #[.agg #[.int .i64 1,.int .i64 ((piecesB s0).length:Int),.string ⟨#[]⟩,.slice none 0 0]] W fun e w'=>e = .returned (.tuple #[.string nb,.int .i64 0])∧Below W.heap.size W w') :=
  Lib.hid fun W hb=>put_any (fun _=>False) (numV ((piecesB s0).length:Int)) _ W (fun _ h=>h.elim) (num_at _ _ _) (by rw [numV_cnt]; omega) (numV_inR (by omega) (by have:=pieces_few hz; omega)) (by have:=numV_len (n:=((piecesB s0).length:Int)) (by omega) (by have:=pieces_few hz; omega); omega) (HT.out _ hb) (nb,0) (Lib.hid hnb.symm)
 have HOA:=Lib.hid (outK_all s0)
 have HO0:Hid (outK s0 0=frameOf nb):=Lib.hid (by unfold outK; rw [hnb]; rfl)
 have HOS:=Lib.hid (fun k=>outK_size (s:=s0) hz k)
 have HOI:=Lib.hid (fun k (hk:k<(piecesB s0).length)=>outK_succ (s:=s0) hk)
 have HPS:=Lib.hid (pieces_size s0)
 have HPF:=Lib.hid (pieces_few hz)
 have HF1:Hid (∀ W,Calls Tryz.prog 40 #[.string nb] W _):=Lib.hid fun W=>frPut_any nb W (by omega)
 have HZ:=Lib.hid hz
 clear H htab hz hs0 hnb hnbs hr
 obtain⟨tm,vo,ba,bt,rs,sn,vs⟩:=h
 unfold Hd.val at *
 dsimp only at *
 have HB0:=Lib.hid ((Below.refl w.heap.size w).alloc (Nat.le_refl _) (.cells #[.int .i64 tm,.int .i64 vo,.int .i64 ba,.int .i64 bt,.slice ar nr cr,.string sn,.slice av nv cv] 42))
 have HK0:Hid (Blk (w.alloc (.cells #[.int .i64 tm,.int .i64 vo,.int .i64 ba,.int .i64 bt,.slice ar nr cr,.string sn,.slice av nv cv] 42)) w.heap.size 42 [.int .i64 tm,.int .i64 vo,.int .i64 ba,.int .i64 bt,.slice ar nr cr,.string sn,.slice av nv cv]):=Lib.hid (heap_alloc_new w _)
 have x0:=HK0.out.cell (j:=0) rfl
 have x1:=HK0.out.cell (j:=1) rfl
 have x2:=HK0.out.cell (j:=2) rfl
 have x3:=HK0.out.cell (j:=3) rfl
 have x4:=HK0.out.cell (j:=4) rfl
 have x5:=HK0.out.cell (j:=5) rfl
 have x6:=HK0.out.cell (j:=6) rfl
 go_enter Tryz.func100,Tryz.ntmps100
 go_wp2_with fail
 refine (HPUT.out _ HB0.out).mono ?_
 rintro e w1 ⟨rfl,hb1⟩
 dsimp only
 have HB1:=Lib.hid (below_then HB0.out hb1 HB0.out.size)
 clear x0 x1 x2 x3 x4 x5 x6 HB0 HK0 hb1 HPUT
 go_wp2_with fail
 go_loopg [3,5] s0.size (fun gk v3 v5 wr=>∃ (l:List ByteArray) (s:ByteArray),gk=s.size∧v3 = .string s∧Hid (CutAt s0 l s)∧Hid (wr.ownsRow w.heap.size 9 1 v5 l.length (strs l))∧Hid (Below w.heap.size w wr))
 case atStart=>exact⟨[],s0,rfl,rfl,Lib.hid (CutAt.start s0),Lib.hid (World.ownsRow_nil _ _ _ _),HB1⟩
 case round =>
  obtain⟨l,s,rfl,rfl,hC,hO,hW⟩:=hrel
  have hsz:=hC.out.2.2
  have hs0:=HZ.out
  have hown:=hO.out
  have hbz:=hW.out.size
  by_cases h6:60000<s.size
  ·have h6i:(60000:Int)<(s.size:Int):=by omega
   have h6j:(60000:Int)≤(s.size:Int):=by omega
   have HC2:=Lib.hid (hC.out.step h6)
   clear hC
   go_wp2_with (at_builtin; refine wpList_app1 wr rfl _ _ 86 rfl w.heap.size 9 i0 (.string ⟨#[]⟩) 16 Tryz.underlying86 hi hz0 hz1 hz2 rfl _ _ _ hown rfl (.string (s.extract 0 60000)) 9 rfl rfl ?c3 ?c4 ?c5 ?_)
   case c3=>unfold maxLen; omega
   case c4=>omega
   case c5=>omega
   intro v' w3 hown' hgrow hblk
   have ho2:w3.ownsRow w.heap.size 9 1 v' (l++[s.extract 0 60000]).length (strs (l++[s.extract 0 60000])):=by
    rw [strs_snoc,List.length_append]; exact hown'
   have HO2:=Lib.hid ho2
   have HW2:Hid (Below w.heap.size w w3):=Lib.hid (hW.out.grown hgrow hbz (fun x e=>(hown.lt x e).1))
   clear hown' hgrow hown ho2 hblk hO hW
   go_wp2_with fail
   go_roundg (s.extract 60000 s.size).size
   case rel=>exact⟨_,s.extract 60000 s.size,rfl,rfl,HC2,HO2,HW2⟩
   case measure=>rw [ByteArray.size_extract]; omega
  ·have h6i:(s.size:Int)≤60000:=by omega
   have HC2:=Lib.hid (hC.out.done (by omega))
   clear hC h6
   go_wp2_with (at_builtin; refine wpList_app1 wr rfl _ _ 86 rfl w.heap.size 9 i0 (.string ⟨#[]⟩) 16 Tryz.underlying86 hi hz0 hz1 hz2 rfl _ _ _ hown rfl (.string s) 9 rfl rfl ?c3 ?c4 ?c5 ?_)
   case c3=>unfold maxLen; omega
   case c4=>omega
   case c5=>omega
   intro v' w3 hown' hgrow hblk
   have ho2:w3.ownsRow w.heap.size 9 1 v' (l++[s]).length (strs (l++[s])):=by
    rw [strs_snoc,List.length_append]; exact hown'
   have HW2:Hid (Below w.heap.size w w3):=Lib.hid (hW.out.grown hgrow hbz (fun x e=>(hown.lt x e).1))
   obtain⟨a,n,c,hv,hsl,-,-⟩:=own_slice ho2
   subst hv
   rw [← HC2.out] at hsl
   have hln:n=(piecesB s0).length:=by have:=hsl.1; rwa [strs_length] at this
   have HSL:=Lib.hid hsl
   have HN:=Lib.hid hln
   rw [← hln] at HCP
   clear hown' hgrow hown ho2 hblk hO hW hsl hsz HC2 hbz h6i hln
   go_wp2_with fail
   refine (wnum_any _ w3).mono ?_
   rintro e w4 ⟨rfl,hb4⟩
   have HB4:=Lib.hid (below_then HW2.out hb4 HW2.out.size)
   have HS4:=Lib.hid (SlAt.keep HSL.out hb4)
   clear hb4 HW2 HSL
   go_wp2_with fail
   refine (HCP.out _ HB4.out).mono ?_
   rintro e w5 ⟨rfl,hb5⟩
   have HB5:=Lib.hid (below_then HB4.out hb5 HB4.out.size)
   have HS5:=Lib.hid (SlAt.keep HS4.out hb5)
   clear hb5 HB4 HS4 HCP
   go_wp2_with fail
   refine (HF1.out w5).mono ?_
   rintro e w6 ⟨rfl,hb6⟩
   have HB6:=Lib.hid (below_then HB5.out hb6 HB5.out.size)
   have HS6:=Lib.hid (SlAt.keep HS5.out hb6)
   clear hb6 HB5 HS5 HF1
   go_wp2_with fail
   go_loopg [8,47] n (fun gk v8 v47 wr=>∃ (k:Nat) (o:ByteArray),k≤n∧gk=n - k∧v47 = .int .i64 (k:Int)∧v8 = .string o∧Hid (o=outK s0 k)∧Hid (Below w.heap.size w wr)∧Hid (SlAt wr a n (strs (piecesB s0))))
   case atStart=>exact⟨0,frameOf nb,Nat.zero_le _,rfl,rfl,rfl,Lib.hid HO0.out.symm,HB6,HS6⟩
   case round =>
    obtain⟨k,o,hk,rfl,rfl,rfl,hO2,hW2,hS2⟩:=hrel
    have hoz:o.size≤200000:=by rw [hO2.out]; exact HOS.out k
    by_cases hlt:k<n
    ·obtain⟨-,b,off,rfl,hcells⟩:=SlAt.str hS2.out (by omega)
     have hkp:k<(piecesB s0).length:=by rw [← HN.out]; exact hlt
     have c0:=hcells k hkp
     have hki:(k:Int)<(n:Int):=by omega
     have hn3:n≤3:=by have:=HN.out; have:=HPF.out; omega
     have hpz:=HPS.out _ (List.getElem_mem hkp)
     have HO3:=Lib.hid (HOI.out k hkp)
     have HFK:=Lib.hid (fun W=>frPut_any (piecesB s0)[k] W (by omega))
     have hfz:=frameOf_size (piecesB s0)[k]
     clear hcells
     generalize (piecesB s0)[k]=p at *
     obtain⟨f,hf⟩:∃ f,f=frameOf p:=⟨_,rfl⟩
     rw [← hf] at HFK HO3 hfz
     have hfz2:f.size≤60012:=by omega
     clear hf hfz hpz
     go_wp2_with fail
     refine (HFK.out _).mono ?_
     rintro e w7 ⟨rfl,hb7⟩
     have HB7:=Lib.hid (below_then hW2.out hb7 hW2.out.size)
     have HS7:=Lib.hid (SlAt.keep hS2.out hb7)
     clear hb7 hW2 hS2 HFK c0
     go_wp2_with fail
     go_roundg (n - (k+1))
     case rel=>exact⟨k+1,o++f,by omega,rfl,by go_num,rfl,Lib.hid (by rw [HO3.out,← hO2.out]),HB7,HS7⟩
     case measure=>omega
    ·have hki:(n:Int)≤(k:Int):=by omega
     have HEQ:Hid (o=wholeB s0):=Lib.hid (by rw [hO2.out,← HOA.out,← HN.out]; congr 1; omega)
     clear hO2
     go_wp2_with fail
     go_ret
     exact⟨by rw [HEQ.out]; rfl,hW2.out⟩
end Go.Proofs.YtlpgbmaoenncjaaGreatDoor

namespace Go.Proofs.YtlpgbmaoenncjaaGreatDoor
open Go.RowKit
set_option linter.unusedVariables false
set_option maxRecDepth 100000
theorem RetDk.store {w w1:World}{d e:Dk}{a ae:Option Addr}{n c ne ce b:Nat}{x:Int}(hd:DkAt w1 a n c d) (hB:Below w.heap.size w w1) (ho:DkBox w1 b e ae ne ce) (hb:w.heap.size≤b) :
 RetDk w (d,x) (.returned (.tuple #[.agg #[.int .i64 d.room,.slice a n c,.int .i64 d.left,.bool d.down],.int .i64 x])) ((((w1.setCell ⟨b,0,none⟩ (.int .i64 d.room)).setCell ⟨b,1,none⟩ (.slice a n c)).setCell ⟨b,2,none⟩ (.int .i64 d.left)).setCell ⟨b,3,none⟩ (.bool d.down)) :=
 RetDk.mk (hd.setD ho _ _ _ _) (four_sets hB hb _ _ _ _)
end Go.Proofs.YtlpgbmaoenncjaaGreatDoor

namespace Go.Proofs.YtlpgbmaoenncjaaGreatDoor
open Go.RowKit
set_option linter.unusedVariables false
set_option maxRecDepth 100000
end Go.Proofs.YtlpgbmaoenncjaaGreatDoor

namespace Go.Proofs.YtlpgbmaoenncjaaGreatDoor
open Go.RowKit
set_option linter.unusedVariables false
set_option maxRecDepth 100000
structure AnSt (w wx:World) (cs:List Value) (d:Dk) (a:Option Addr) (n c:Nat):Prop where
 box:DkBox wx w.heap.size d a n c
 hd:Blk wx (w.heap.size+1) 42 cs
 out:DkBox wx (w.heap.size+1+1) Dk.zero none 0 0
 at_:DkAt wx a n c d
 bel:Below w.heap.size w wx
theorem AnSt.keep {w wx w':World}{cs:List Value}{d:Dk}{a:Option Addr}{n c:Nat}(h:AnSt w wx cs d a n c) (hb:Below wx.heap.size wx w'):AnSt w w' cs d a n c :=
 ⟨h.box.keep hb,h.hd.keep hb,h.out.keep hb,h.at_.keep hb,below_then h.bel hb h.bel.size⟩
theorem an_start (w:World) (cs:List Value) {d:Dk}{a:Option Addr}{n c:Nat}(h:DkAt w a n c d) :
 AnSt w (((w.alloc (.cells #[.int .i64 d.room,.slice a n c,.int .i64 d.left,.bool d.down] 38)).alloc (.cells cs.toArray 42)).alloc (.cells #[.int .i64 0,.slice none 0 0,.int .i64 0,.bool false] 38)) cs d a n c:=by
 have hb:Below w.heap.size w (((w.alloc (.cells #[.int .i64 d.room,.slice a n c,.int .i64 d.left,.bool d.down] 38)).alloc (.cells cs.toArray 42)).alloc (.cells #[.int .i64 0,.slice none 0 0,.int .i64 0,.bool false] 38)) :=
  (((Below.refl _ w).alloc (Nat.le_refl _) _).alloc (by simp) _).alloc (by simp; omega) _
 refine⟨?_,?_,?_,h.keep hb,hb⟩
 ·exact ((DkBox.new w d a n c).keep ((Below.refl _ _).alloc (Nat.le_refl _) _)).keep ((Below.refl _ _).alloc (Nat.le_refl _) _)
 ·have:=heap_alloc_new (w.alloc (.cells #[.int .i64 d.room,.slice a n c,.int .i64 d.left,.bool d.down] 38)) (.cells cs.toArray 42)
  rw [World.size_alloc] at this
  exact Blk.alloc this _
 ·have:=Four.new ((w.alloc (.cells #[.int .i64 d.room,.slice a n c,.int .i64 d.left,.bool d.down] 38)).alloc (.cells cs.toArray 42)) 38 (.int .i64 0) (.slice none 0 0) (.int .i64 0) (.bool false)
  rw [World.size_alloc,World.size_alloc] at this
  exact this
theorem AnSt.ret {w wx:World}{cs:List Value}{d:Dk}{a:Option Addr}{n c:Nat}(h:AnSt w wx cs d a n c) {e:Dk}{a':Option Addr}{n' c':Nat}(he:DkAt wx a' n' c' e) (x:Int) :
 RetDk w (e,x) (.returned (.tuple #[.agg #[.int .i64 e.room,.slice a' n' c',.int .i64 e.left,.bool e.down],.int .i64 x])) ((((wx.setCell ⟨w.heap.size+1+1,0,none⟩ (.int .i64 e.room)).setCell ⟨w.heap.size+1+1,1,none⟩ (.slice a' n' c')).setCell ⟨w.heap.size+1+1,2,none⟩ (.int .i64 e.left)).setCell ⟨w.heap.size+1+1,3,none⟩ (.bool e.down)) :=
 RetDk.store he h.bel h.out (by omega)
end Go.Proofs.YtlpgbmaoenncjaaGreatDoor

namespace Go.Proofs.YtlpgbmaoenncjaaGreatDoor
open Go.RowKit
set_option linter.unusedVariables false
set_option maxRecDepth 100000
theorem infoStep:(Tryz.prog.info? 96).map (fun i=>(i.zero,i.size,i.bytes))=some (some (.agg #[.string ⟨#[]⟩,.string ⟨#[]⟩,.string ⟨#[]⟩]),3,48):=by kernel_rfl
theorem hasB_not (d:Dk) (nm:ByteArray):hasB d nm=false↔atL d.files nm<0:=by
 unfold hasB
 rw [decide_eq_false_iff_not]
 omega
set_option maxHeartbeats 3000000 in
theorem wanew_any (a:Option Addr) (n c:Nat) (d:Dk) (h:Hd) (ar:Option Addr) (nr cr:Nat) (av:Option Addr) (nv cv:Nat) (w:World) (hd:DkAt w a n c d) (H:HdAt w h ar nr cr av nv cv) (htab:Lib.TabIs Tryz.prog w "internal/strconv.uint64pow10" .u64 Lib.pow10Tab) (hr:rightH h=true)
 (HSTEPS:Hid (∀ (a:Option Addr) (n c:Nat) (d:Dk) (sa:Option Addr) (ns cs:Nat) (L:List Stp) (W:World),DkAt W a n c d→stE.Sl W sa ns L→(∀ s∈L,StOk s)→ns≤1000000→Calls Tryz.prog 56 #[d.val a n c,.slice sa ns cs] W (RetDk W (stepsS d L)))) :
 Calls Tryz.prog 53 #[d.val a n c,h.val ar nr cr av nv cv] w (RetDk w (anewS d h)):=by
 have HT:=Lib.hid (Lib.tabBelow_of_tabIs htab)
 obtain⟨i0,hi,hz0,hz1,hz2⟩:=info_parts infoStep
 have HHS:Hid (∀ W,Below w.heap.size w W→Calls Tryz.prog 51 #[d.val a n c,.string newN] W fun e w'=>e = .returned (.bool (hasB d newN))∧Below W.heap.size W w') :=
  Lib.hid fun W hb=>has_any a n c d newN W (hd.keep hb) _ (Lib.hid rfl)
 have HWH:Hid (∀ W,Below w.heap.size w W→Calls Tryz.prog 100 #[h.val ar nr cr av nv cv] W fun e w'=>e = .returned (.string (wholeB (putH h).1))∧Below W.heap.size W w') :=
  Lib.hid fun W hb=>wall_any h ar nr cr av nv cv W (H.keep hb) (HT.out _ hb) hr
 have hz:(wholeB (putH h).1).size≤2097152:=Nat.le_trans (wholeB_size (putH_size hr)) (by decide)
 obtain⟨r,hr0⟩:∃ r,r=anewS d h:=⟨_,rfl⟩
 rw [← hr0]
 unfold anewS threeS at hr0
 generalize wholeB (putH h).1=WB at *
 have hkb:=hasB_not d newN
 obtain⟨k,hk⟩:∃ k,k=hasB d newN:=⟨_,rfl⟩
 rw [← hk] at HHS hkb
 have HZ:=Lib.hid hz
 have HR:Hid (r=stepsS d (if k=false then [⟨1,⟨#[108,111,103,46,110,101,119]⟩,WB⟩,⟨2,⟨#[108,111,103,46,110,101,119]⟩,⟨#[]⟩⟩,⟨3,⟨#[108,111,103,46,110,101,119]⟩,⟨#[108,111,103]⟩⟩] else ⟨4,⟨#[108,111,103,46,110,101,119]⟩,⟨#[]⟩⟩ :: [⟨1,⟨#[108,111,103,46,110,101,119]⟩,WB⟩,⟨2,⟨#[108,111,103,46,110,101,119]⟩,⟨#[]⟩⟩,⟨3,⟨#[108,111,103,46,110,101,119]⟩,⟨#[108,111,103]⟩⟩])):=Lib.hid (by
  rw [hr0]
  cases k with
  | false=>rw [if_pos (hkb.1 rfl),if_pos rfl]; rfl
  | true=>rw [if_neg (fun e=>by have:=hkb.2 e; cases this),if_neg (by decide)]; rfl)
 have hst:=an_start w [.int .i64 h.term,.int .i64 h.vote,.int .i64 h.base,.int .i64 h.bt,.slice ar nr cr,.string h.snap,.slice av nv cv] hd
 have HS:=Lib.hid hst
 clear hd H htab hr hz hr0 hk hst hkb
 obtain⟨tm,vo,ba,bt,rs,sn,vs⟩:=h
 unfold Hd.val Dk.val newN at *
 dsimp only at *
 obtain⟨rm,fl,lf,dn⟩:=d
 dsimp only at *
 have x0:=HS.out.hd.cell (j:=0) rfl; have x1:=HS.out.hd.cell (j:=1) rfl; have x2:=HS.out.hd.cell (j:=2) rfl; have x3:=HS.out.hd.cell (j:=3) rfl; have x4:=HS.out.hd.cell (j:=4) rfl; have x5:=HS.out.hd.cell (j:=5) rfl; have x6:=HS.out.hd.cell (j:=6) rfl
 go_enter Tryz.func53,Tryz.ntmps53
 go_wp2_with fail
 refine (HWH.out _ HS.out.bel).mono ?_
 rintro e w1 ⟨rfl,hb1⟩
 have HS1:=Lib.hid (HS.out.keep hb1)
 have hb2:Below w1.heap.size w1 (w1.alloc (.cells #[.string ⟨#[119,114,105,116,101]⟩,.string ⟨#[108,111,103,46,110,101,119]⟩,.string WB,.string ⟨#[115,121,110,99]⟩,.string ⟨#[108,111,103,46,110,101,119]⟩,.string ⟨#[]⟩,.string ⟨#[114,101,110,97,109,101]⟩,.string ⟨#[108,111,103,46,110,101,119]⟩,.string ⟨#[108,111,103]⟩] 151)):=(Below.refl _ w1).alloc (Nat.le_refl _) _
 have HS2:=Lib.hid (HS1.out.keep hb2)
 have HL2:Hid (stE.Sl (w1.alloc (.cells #[.string ⟨#[119,114,105,116,101]⟩,.string ⟨#[108,111,103,46,110,101,119]⟩,.string WB,.string ⟨#[115,121,110,99]⟩,.string ⟨#[108,111,103,46,110,101,119]⟩,.string ⟨#[]⟩,.string ⟨#[114,101,110,97,109,101]⟩,.string ⟨#[108,111,103,46,110,101,119]⟩,.string ⟨#[108,111,103]⟩] 151)) (some ⟨w1.heap.size,0,none⟩) 3 [⟨1,⟨#[108,111,103,46,110,101,119]⟩,WB⟩,⟨2,⟨#[108,111,103,46,110,101,119]⟩,⟨#[]⟩⟩,⟨3,⟨#[108,111,103,46,110,101,119]⟩,⟨#[108,111,103]⟩⟩]):=Lib.hid (by
  have hz:=heap_alloc_new w1 (.cells #[.string ⟨#[119,114,105,116,101]⟩,.string ⟨#[108,111,103,46,110,101,119]⟩,.string WB,.string ⟨#[115,121,110,99]⟩,.string ⟨#[108,111,103,46,110,101,119]⟩,.string ⟨#[]⟩,.string ⟨#[114,101,110,97,109,101]⟩,.string ⟨#[108,111,103,46,110,101,119]⟩,.string ⟨#[108,111,103]⟩] 151)
  refine⟨rfl,.inr ⟨w1.heap.size,0,rfl,fun i hi j u hu=>?_⟩⟩
  have key:∀ m,(w1.alloc (.cells #[.string ⟨#[119,114,105,116,101]⟩,.string ⟨#[108,111,103,46,110,101,119]⟩,.string WB,.string ⟨#[115,121,110,99]⟩,.string ⟨#[108,111,103,46,110,101,119]⟩,.string ⟨#[]⟩,.string ⟨#[114,101,110,97,109,101]⟩,.string ⟨#[108,111,103,46,110,101,119]⟩,.string ⟨#[108,111,103]⟩] 151)).cell? ⟨w1.heap.size,m,none⟩=(#[.string ⟨#[119,114,105,116,101]⟩,.string ⟨#[108,111,103,46,110,101,119]⟩,.string WB,.string ⟨#[115,121,110,99]⟩,.string ⟨#[108,111,103,46,110,101,119]⟩,.string ⟨#[]⟩,.string ⟨#[114,101,110,97,109,101]⟩,.string ⟨#[108,111,103,46,110,101,119]⟩,.string ⟨#[108,111,103]⟩]:Array Value)[m]?:=fun m=>Lib.cell_of_heap hz m
  rw [Nat.zero_add,key]
  match i,hi with
  | 0,_ =>
    match j with
    | 0=>exact hu
    | 1=>exact hu
    | 2=>exact hu
    | j+3=>simp [stE] at hu
  | 1,_ =>
    match j with
    | 0=>exact hu
    | 1=>exact hu
    | 2=>exact hu
    | j+3=>simp [stE] at hu
  | 2,_ =>
    match j with
    | 0=>exact hu
    | 1=>exact hu
    | 2=>exact hu
    | j+3=>simp [stE] at hu)
 clear x0 x1 x2 x3 x4 x5 x6 HWH HS HS1 hb1 hb2
 go_upto_region 3 with fail
 generalize w1.alloc (.cells #[.string ⟨#[119,114,105,116,101]⟩,.string ⟨#[108,111,103,46,110,101,119]⟩,.string WB,.string ⟨#[115,121,110,99]⟩,.string ⟨#[108,111,103,46,110,101,119]⟩,.string ⟨#[]⟩,.string ⟨#[114,101,110,97,109,101]⟩,.string ⟨#[108,111,103,46,110,101,119]⟩,.string ⟨#[108,111,103]⟩] 151)=w2 at *
 generalize w1.heap.size=sb at *
 have q0:=HS2.out.box.c0; have q1:=HS2.out.box.c1; have q2:=HS2.out.box.c2; have q3:=HS2.out.box.c3
 dsimp only at q0 q1 q2 q3
 go_wp2_with fail
 refine (HHS.out _ HS2.out.bel).mono ?_
 rintro e w3 ⟨rfl,hb3⟩
 have HS3:=Lib.hid (HS2.out.keep hb3)
 have HL3:=Lib.hid (HL2.out.keep hb3)
 clear q0 q1 q2 q3 HS2 HL2 hb3 HHS
 go_upto_if 16 with fail
 go_cut [5,7] (fun v5 v7 wx=>v5 = .int .i64 0∧∃ (sa:Option Addr) (ns cs:Nat) (L:List Stp),v7 = .slice sa ns cs∧ns≤4∧Hid (AnSt w wx [.int .i64 tm,.int .i64 vo,.int .i64 ba,.int .i64 bt,.slice ar nr cr,.string sn,.slice av nv cv] ⟨rm,fl,lf,dn⟩ a n c)∧Hid (stE.Sl wx sa ns L)∧Hid (∀ s∈L,StOk s)∧Hid (r=stepsS ⟨rm,fl,lf,dn⟩ L))
 case first =>
  have hok3:∀ s∈([⟨1,⟨#[108,111,103,46,110,101,119]⟩,WB⟩,⟨2,⟨#[108,111,103,46,110,101,119]⟩,⟨#[]⟩⟩,⟨3,⟨#[108,111,103,46,110,101,119]⟩,⟨#[108,111,103]⟩⟩]:List Stp),StOk s:=by
   have:=HZ.out
   intro s hs
   simp only [List.mem_cons,List.mem_nil_iff,or_false] at hs
   rcases hs with rfl | rfl | rfl
   ·exact⟨⟨show (1:Int)≤1 by decide,show (1:Int)≤4 by decide⟩,show newN.size≤maxLen by decide,this⟩
   ·exact⟨by decide,by decide,by decide⟩
   ·exact⟨by decide,by decide,by decide⟩
  have HOK:=Lib.hid hok3
  have hrr:r=_:=HR.out
  clear hok3
  cases k with
  | false =>
    rw [if_pos rfl] at hrr
    go_wp2_with fail
    go_meet
    exact⟨rfl,_,_,_,_,rfl,by decide,HS3,HL3,HOK,Lib.hid hrr⟩
  | true =>
    rw [if_neg (by decide)] at hrr
    have HRR:=Lib.hid hrr
    have hown:=World.ownsRow_lit (base:=w3.heap.size) (e:=96) (size:=3) w3 #[.string ⟨#[114,101,109,111,118,101]⟩,.string ⟨#[108,111,103,46,110,101,119]⟩,.string ⟨#[]⟩] 1 (Nat.le_refl _) (by decide) rfl
    have hbo:Below w3.heap.size w3 (w3.alloc (.cells #[.string ⟨#[114,101,109,111,118,101]⟩,.string ⟨#[108,111,103,46,110,101,119]⟩,.string ⟨#[]⟩] 96)):=(Below.refl _ w3).alloc (Nat.le_refl _) _
    have HO:=Lib.hid (show (w3.alloc (.cells #[.string ⟨#[114,101,109,111,118,101]⟩,.string ⟨#[108,111,103,46,110,101,119]⟩,.string ⟨#[]⟩] 96)).ownsRow w3.heap.size 96 3 (.slice (some ⟨w3.heap.size,0,none⟩) 1 1) 1 (stE.cells [⟨4,⟨#[108,111,103,46,110,101,119]⟩,⟨#[]⟩⟩]) from hown)
    have HLo:=Lib.hid (HL3.out.keep hbo)
    have HBO:=Lib.hid hbo
    clear hown hbo hrr HR
    go_wp2_with (at_builtin; refine Enc.wpList_app (E:=stE) _ rfl _ _ 97 rfl w3.heap.size 96 i0 _ 48 Tryz.underlying97 hi hz0 hz1 hz2 rfl _ 1 [⟨4,⟨#[108,111,103,46,110,101,119]⟩,⟨#[]⟩⟩] HO.out rfl (some ⟨sb,0,none⟩) 3 3 [⟨1,⟨#[108,111,103,46,110,101,119]⟩,WB⟩,⟨2,⟨#[108,111,103,46,110,101,119]⟩,⟨#[]⟩⟩,⟨3,⟨#[108,111,103,46,110,101,119]⟩,⟨#[108,111,103]⟩⟩] rfl HLo.out (fun e=>by cases e) (by decide) (by decide) HBO.out.size ?_)
    intro v' w4 hown' hgrow
    have HB4:=Lib.hid (HBO.out.grown hgrow HBO.out.size (fun k e=>Nat.le_of_eq (Option.some.inj e)))
    have HS4:=Lib.hid (HS3.out.keep HB4.out)
    obtain⟨a4,c4,rfl,-,hsl4,-,-,-⟩:=Enc.own_sl (E:=stE) hown'
    have HL4:=Lib.hid hsl4
    clear hown' hgrow HO HLo HBO HB4 hsl4
    go_wp2_with fail
    go_meet
    refine⟨rfl,_,_,_,_,rfl,by decide,HS4,HL4,Lib.hid (fun s hs=>?_),HRR⟩
    rcases List.mem_cons.1 hs with rfl | h
    ·exact⟨by decide,by decide,by decide⟩
    ·exact HOK.out s h
 obtain⟨rfl,sa,ns,cs,L,rfl,hns,HS5,HL5,HOK,HRR⟩:=hcut
 have hcall:=Lib.hid (HSTEPS.out a n c ⟨rm,fl,lf,dn⟩ sa ns cs L wc HS5.out.at_ HL5.out HOK.out (by omega))
 have q0:=HS5.out.box.c0; have q1:=HS5.out.box.c1; have q2:=HS5.out.box.c2; have q3:=HS5.out.box.c3
 dsimp only at q0 q1 q2 q3
 clear HS3 HL3
 go_wp2_with fail
 refine hcall.out.mono ?_
 rintro e w6 ⟨a6,n6,c6,rfl,hd6,hb6⟩
 have HS6:=Lib.hid (HS5.out.keep hb6)
 rw [← HRR.out] at hd6
 rw [← HRR.out]
 obtain⟨⟨xr,xf,xl,xd⟩,x⟩:=r
 have HF:=Lib.hid (HS6.out.ret hd6 x)
 unfold Dk.val
 dsimp only at *
 have o0:=HS6.out.out.c0; have o1:=HS6.out.out.c1; have o2:=HS6.out.out.c2; have o3:=HS6.out.out.c3
 have g0:=HS6.out.out.free 0; have g1:=HS6.out.out.free 1; have g2:=HS6.out.out.free 2; have g3:=HS6.out.out.free 3
 clear q0 q1 q2 q3 hcall hd6 hb6 HS5 HL5 HOK HRR
 go_wp2_with fail
 refine bodyPost_ret (v:=.tuple #[.agg #[.int .i64 xr,.slice a6 n6 c6,.int .i64 xl,.bool xd],.int .i64 x]) ?_ rfl ?_
 ·rw [results_cell_tmp rfl]; go_simp
 ·exact HF.out
end Go.Proofs.YtlpgbmaoenncjaaGreatDoor

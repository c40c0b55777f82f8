/-
  The walks of wal.all and of the reference's Whole: the frames of a state that may be.
-/
import Derived.Test.YtlpgbmaoenncjaaGreatDoorWsB
import Derived.Test.YtlpgbmaoenncjaaGreatDoorWpA
import Derived.Test.YtlpgbmaoenncjaaGreatDoorWpB
namespace Go.Proofs.YtlpgbmaoenncjaaGreatDoor
open Go.RowKit
set_option linter.unusedVariables false
set_option maxRecDepth 100000
theorem fold_size:∀ (l:List ByteArray) (a:ByteArray),(∀ p∈l,p.size≤60000)→(l.foldl (fun o p=>o++frameOf p) a).size≤a.size+l.length*60012
 | [],a,_=>by simp
 | p :: l,a,h=>by
   rw [List.foldl_cons]
   have h1:=fold_size l (a++frameOf p) (fun q hq=>h q (List.mem_cons_of_mem _ hq))
   have h2:=h p (List.mem_cons_self ..)
   rw [ByteArray.size_append,frameOf_size] at h1
   simp only [List.length_cons]
   omega
theorem num_at (w:World) (S:Nat→Prop) (n:Int):V.At w S (numV n) [.int .i64 1,.int .i64 n,.string ⟨#[]⟩,.slice none 0 0]:=by
 simp only [numV,V.At,VAll]
 exact⟨none,0,rfl,Nat.le_refl _,fun _=>rfl,trivial⟩
def outK (s:ByteArray) (k:Nat):ByteArray:=((piecesB s).take k).foldl (fun o p=>o++frameOf p) (frameOf (putGot (numV ((piecesB s).length:Int))).1)
theorem outK_all (s:ByteArray):outK s (piecesB s).length=wholeB s:=by
 unfold outK wholeB
 rw [List.take_length]
theorem outK_succ {s:ByteArray}{k:Nat}(h:k<(piecesB s).length):outK s (k+1)=outK s k++frameOf (piecesB s)[k]:=by
 unfold outK
 rw [List.take_succ_eq_append_getElem h,List.foldl_append]
 rfl
theorem outK_size {s:ByteArray}(hs:s.size≤131072) (k:Nat):(outK s k).size≤200000:=by
 obtain⟨b,hb,hbs,-⟩:=count_got (pieces_pos s) (pieces_few hs)
 have h1:=fold_size ((piecesB s).take k) (frameOf (putGot (numV ((piecesB s).length:Int))).1) (fun p hp=>pieces_size s p (List.mem_of_mem_take hp))
 have h2:=pieces_few hs
 have h3:((piecesB s).take k).length≤(piecesB s).length:=by rw [List.length_take]; omega
 rw [frameOf_size,hb] at h1
 unfold outK
 rw [hb]
 dsimp only at h1 ⊢
 omega
theorem wholeB_size {s:ByteArray}(hs:s.size≤131072):(wholeB s).size≤200000:=by rw [← outK_all]; exact outK_size hs _
set_option maxHeartbeats 2000000 in
theorem wall_any (h:Hd) (ar:Option Addr) (nr cr:Nat) (av:Option Addr) (nv cv:Nat) (w:World) (H:HdAt w h ar nr cr av nv cv) (htab:Lib.TabIs Tryz.prog w "internal/strconv.uint64pow10" .u64 Lib.pow10Tab) (hr:rightH h=true) :
 Calls Tryz.prog 100 #[h.val ar nr cr av nv cv] w fun e w'=>e = .returned (.string (wholeB (putH h).1))∧Below w.heap.size w w':=by
 obtain⟨i0,hi,hz0,hz1,hz2⟩:=info_parts infoStr
 have HT:=Lib.hid (Lib.tabBelow_of_tabIs htab)
 have hz:=putH_size hr
 obtain⟨s0,hs0⟩:∃ s0,s0=(putH h).1:=⟨_,rfl⟩
 have HPUT:Hid (∀ W,Below w.heap.size w W→Calls Tryz.prog 25 #[h.val ar nr cr av nv cv] W fun e w'=>e = .returned (.tuple #[.string s0,.int .i64 0])∧Below W.heap.size W w') :=
  Lib.hid fun W hb=>wput_any h ar nr cr av nv cv W (H.keep hb) (HT.out _ hb) (s0,0) (Lib.hid (by rw [hs0]; exact (rightH_put hr).symm))
 rw [← hs0] at hz ⊢
 obtain⟨nb,hnb,hnbs,-⟩:=count_got (pieces_pos s0) (pieces_few hz)
 have HCP:Hid (∀ W,Below w.heap.size w W→Calls Tryz.prog 36 #[.agg #[.int .i64 1,.int .i64 ((piecesB s0).length:Int),.string ⟨#[]⟩,.slice none 0 0]] W fun e w'=>e = .returned (.tuple #[.string nb,.int .i64 0])∧Below W.heap.size W w') :=
  Lib.hid fun W hb=>put_any (fun _=>False) (numV ((piecesB s0).length:Int)) _ W (fun _ h=>h.elim) (num_at _ _ _) (by rw [numV_cnt]; omega) (numV_inR (by omega) (by have:=pieces_few hz; omega)) (by have:=numV_len (n:=((piecesB s0).length:Int)) (by omega) (by have:=pieces_few hz; omega); omega) (HT.out _ hb) (nb,0) (Lib.hid hnb.symm)
 have HOA:=Lib.hid (outK_all s0)
 have HO0:Hid (outK s0 0=frameOf nb):=Lib.hid (by unfold outK; rw [hnb]; rfl)
 have HOS:=Lib.hid (fun k=>outK_size (s:=s0) hz k)
 have HOI:=Lib.hid (fun k (hk:k<(piecesB s0).length)=>outK_succ (s:=s0) hk)
 have HPS:=Lib.hid (pieces_size s0)
 have HPF:=Lib.hid (pieces_few hz)
 have HF1:Hid (∀ W,Calls Tryz.prog 40 #[.string nb] W _):=Lib.hid fun W=>frPut_any nb W (by omega)
 have HZ:=Lib.hid hz
 clear H htab hz hs0 hnb hnbs hr
 obtain⟨tm,vo,ba,bt,rs,sn,vs⟩:=h
 unfold Hd.val at *
 dsimp only at *
 have HB0:=Lib.hid ((Below.refl w.heap.size w).alloc (Nat.le_refl _) (.cells #[.int .i64 tm,.int .i64 vo,.int .i64 ba,.int .i64 bt,.slice ar nr cr,.string sn,.slice av nv cv] 42))
 have HK0:Hid (Blk (w.alloc (.cells #[.int .i64 tm,.int .i64 vo,.int .i64 ba,.int .i64 bt,.slice ar nr cr,.string sn,.slice av nv cv] 42)) w.heap.size 42 [.int .i64 tm,.int .i64 vo,.int .i64 ba,.int .i64 bt,.slice ar nr cr,.string sn,.slice av nv cv]):=Lib.hid (heap_alloc_new w _)
 have x0:=HK0.out.cell (j:=0) rfl
 have x1:=HK0.out.cell (j:=1) rfl
 have x2:=HK0.out.cell (j:=2) rfl
 have x3:=HK0.out.cell (j:=3) rfl
 have x4:=HK0.out.cell (j:=4) rfl
 have x5:=HK0.out.cell (j:=5) rfl
 have x6:=HK0.out.cell (j:=6) rfl
 go_enter Tryz.func100,Tryz.ntmps100
 go_wp2_with fail
 refine (HPUT.out _ HB0.out).mono ?_
 rintro e w1 ⟨rfl,hb1⟩
 dsimp only
 have HB1:=Lib.hid (below_then HB0.out hb1 HB0.out.size)
 clear x0 x1 x2 x3 x4 x5 x6 HB0 HK0 hb1 HPUT
 go_wp2_with fail
 go_loopg [3,5] s0.size (fun gk v3 v5 wr=>∃ (l:List ByteArray) (s:ByteArray),gk=s.size∧v3 = .string s∧Hid (CutAt s0 l s)∧Hid (wr.ownsRow w.heap.size 9 1 v5 l.length (strs l))∧Hid (Below w.heap.size w wr))
 case atStart=>exact⟨[],s0,rfl,rfl,Lib.hid (CutAt.start s0),Lib.hid (World.ownsRow_nil _ _ _ _),HB1⟩
 case round =>
  obtain⟨l,s,rfl,rfl,hC,hO,hW⟩:=hrel
  have hsz:=hC.out.2.2
  have hs0:=HZ.out
  have hown:=hO.out
  have hbz:=hW.out.size
  by_cases h6:60000<s.size
  ·have h6i:(60000:Int)<(s.size:Int):=by omega
   have h6j:(60000:Int)≤(s.size:Int):=by omega
   have HC2:=Lib.hid (hC.out.step h6)
   clear hC
   go_wp2_with (at_builtin; refine wpList_app1 wr rfl _ _ 86 rfl w.heap.size 9 i0 (.string ⟨#[]⟩) 16 Tryz.underlying86 hi hz0 hz1 hz2 rfl _ _ _ hown rfl (.string (s.extract 0 60000)) 9 rfl rfl ?c3 ?c4 ?c5 ?_)
   case c3=>unfold maxLen; omega
   case c4=>omega
   case c5=>omega
   intro v' w3 hown' hgrow hblk
   have ho2:w3.ownsRow w.heap.size 9 1 v' (l++[s.extract 0 60000]).length (strs (l++[s.extract 0 60000])):=by
    rw [strs_snoc,List.length_append]; exact hown'
   have HO2:=Lib.hid ho2
   have HW2:Hid (Below w.heap.size w w3):=Lib.hid (hW.out.grown hgrow hbz (fun x e=>(hown.lt x e).1))
   clear hown' hgrow hown ho2 hblk hO hW
   go_wp2_with fail
   go_roundg (s.extract 60000 s.size).size
   case rel=>exact⟨_,s.extract 60000 s.size,rfl,rfl,HC2,HO2,HW2⟩
   case measure=>rw [ByteArray.size_extract]; omega
  ·have h6i:(s.size:Int)≤60000:=by omega
   have HC2:=Lib.hid (hC.out.done (by omega))
   clear hC h6
   go_wp2_with (at_builtin; refine wpList_app1 wr rfl _ _ 86 rfl w.heap.size 9 i0 (.string ⟨#[]⟩) 16 Tryz.underlying86 hi hz0 hz1 hz2 rfl _ _ _ hown rfl (.string s) 9 rfl rfl ?c3 ?c4 ?c5 ?_)
   case c3=>unfold maxLen; omega
   case c4=>omega
   case c5=>omega
   intro v' w3 hown' hgrow hblk
   have ho2:w3.ownsRow w.heap.size 9 1 v' (l++[s]).length (strs (l++[s])):=by
    rw [strs_snoc,List.length_append]; exact hown'
   have HW2:Hid (Below w.heap.size w w3):=Lib.hid (hW.out.grown hgrow hbz (fun x e=>(hown.lt x e).1))
   obtain⟨a,n,c,hv,hsl,-,-⟩:=own_slice ho2
   subst hv
   rw [← HC2.out] at hsl
   have hln:n=(piecesB s0).length:=by have:=hsl.1; rwa [strs_length] at this
   have HSL:=Lib.hid hsl
   have HN:=Lib.hid hln
   rw [← hln] at HCP
   clear hown' hgrow hown ho2 hblk hO hW hsl hsz HC2 hbz h6i hln
   go_wp2_with fail
   refine (wnum_any _ w3).mono ?_
   rintro e w4 ⟨rfl,hb4⟩
   have HB4:=Lib.hid (below_then HW2.out hb4 HW2.out.size)
   have HS4:=Lib.hid (SlAt.keep HSL.out hb4)
   clear hb4 HW2 HSL
   go_wp2_with fail
   refine (HCP.out _ HB4.out).mono ?_
   rintro e w5 ⟨rfl,hb5⟩
   have HB5:=Lib.hid (below_then HB4.out hb5 HB4.out.size)
   have HS5:=Lib.hid (SlAt.keep HS4.out hb5)
   clear hb5 HB4 HS4 HCP
   go_wp2_with fail
   refine (HF1.out w5).mono ?_
   rintro e w6 ⟨rfl,hb6⟩
   have HB6:=Lib.hid (below_then HB5.out hb6 HB5.out.size)
   have HS6:=Lib.hid (SlAt.keep HS5.out hb6)
   clear hb6 HB5 HS5 HF1
   go_wp2_with fail
   go_loopg [8,47] n (fun gk v8 v47 wr=>∃ (k:Nat) (o:ByteArray),k≤n∧gk=n - k∧v47 = .int .i64 (k:Int)∧v8 = .string o∧Hid (o=outK s0 k)∧Hid (Below w.heap.size w wr)∧Hid (SlAt wr a n (strs (piecesB s0))))
   case atStart=>exact⟨0,frameOf nb,Nat.zero_le _,rfl,rfl,rfl,Lib.hid HO0.out.symm,HB6,HS6⟩
   case round =>
    obtain⟨k,o,hk,rfl,rfl,rfl,hO2,hW2,hS2⟩:=hrel
    have hoz:o.size≤200000:=by rw [hO2.out]; exact HOS.out k
    by_cases hlt:k<n
    ·obtain⟨-,b,off,rfl,hcells⟩:=SlAt.str hS2.out (by omega)
     have hkp:k<(piecesB s0).length:=by rw [← HN.out]; exact hlt
     have c0:=hcells k hkp
     have hki:(k:Int)<(n:Int):=by omega
     have hn3:n≤3:=by have:=HN.out; have:=HPF.out; omega
     have hpz:=HPS.out _ (List.getElem_mem hkp)
     have HO3:=Lib.hid (HOI.out k hkp)
     have HFK:=Lib.hid (fun W=>frPut_any (piecesB s0)[k] W (by omega))
     have hfz:=frameOf_size (piecesB s0)[k]
     clear hcells
     generalize (piecesB s0)[k]=p at *
     obtain⟨f,hf⟩:∃ f,f=frameOf p:=⟨_,rfl⟩
     rw [← hf] at HFK HO3 hfz
     have hfz2:f.size≤60012:=by omega
     clear hf hfz hpz
     go_wp2_with fail
     refine (HFK.out _).mono ?_
     rintro e w7 ⟨rfl,hb7⟩
     have HB7:=Lib.hid (below_then hW2.out hb7 hW2.out.size)
     have HS7:=Lib.hid (SlAt.keep hS2.out hb7)
     clear hb7 hW2 hS2 HFK c0
     go_wp2_with fail
     go_roundg (n - (k+1))
     case rel=>exact⟨k+1,o++f,by omega,rfl,by go_num,rfl,Lib.hid (by rw [HO3.out,← hO2.out]),HB7,HS7⟩
     case measure=>omega
    ·have hki:(n:Int)≤(k:Int):=by omega
     have HEQ:Hid (o=wholeB s0):=Lib.hid (by rw [hO2.out,← HOA.out,← HN.out]; congr 1; omega)
     clear hO2
     go_wp2_with fail
     go_ret
     exact⟨by rw [HEQ.out]; rfl,hW2.out⟩
set_option maxHeartbeats 2000000 in
theorem rwhole_any (h:Hd) (ar:Option Addr) (nr cr:Nat) (av:Option Addr) (nv cv:Nat) (w:World) (H:HdAt w h ar nr cr av nv cv) (htab:Lib.TabIs Tryz.prog w "internal/strconv.uint64pow10" .u64 Lib.pow10Tab) (hr:rightH h=true) :
 Calls Tryz.prog 110 #[h.val ar nr cr av nv cv] w fun e w'=>e = .returned (.string (wholeB (putH h).1))∧Below w.heap.size w w':=by
 obtain⟨i0,hi,hz0,hz1,hz2⟩:=info_parts infoStr
 have HT:=Lib.hid (Lib.tabBelow_of_tabIs htab)
 have hz:=putH_size hr
 obtain⟨s0,hs0⟩:∃ s0,s0=(putH h).1:=⟨_,rfl⟩
 have HPUT:Hid (∀ W,Below w.heap.size w W→Calls Tryz.prog 107 #[h.val ar nr cr av nv cv] W fun e w'=>e = .returned (.tuple #[.string s0,.bool true])∧Below W.heap.size W w') :=
  Lib.hid fun W hb=>r14bytes_any h ar nr cr av nv cv W (H.keep hb) (HT.out _ hb) (s0,true) (Lib.hid (by rw [hs0,bytesH_put,rightH_put hr]; rfl))
 rw [← hs0] at hz ⊢
 obtain⟨nb,hnb,hnbs,-⟩:=count_got (pieces_pos s0) (pieces_few hz)
 have HCP:Hid (∀ W,Below w.heap.size w W→Calls Tryz.prog 39 #[.agg #[.int .i64 1,.int .i64 ((piecesB s0).length:Int),.string ⟨#[]⟩,.slice none 0 0]] W fun e w'=>e = .returned (.tuple #[.string nb,.int .i64 0])∧Below W.heap.size W w') :=
  Lib.hid fun W hb=>rput_any (fun _=>False) (numV ((piecesB s0).length:Int)) _ W (fun _ h=>h.elim) (num_at _ _ _) (by rw [numV_cnt]; omega) (numV_inR (by omega) (by have:=pieces_few hz; omega)) (by have:=numV_len (n:=((piecesB s0).length:Int)) (by omega) (by have:=pieces_few hz; omega); omega) (HT.out _ hb) (nb,0) (Lib.hid hnb.symm)
 have HOA:=Lib.hid (outK_all s0)
 have HO0:Hid (outK s0 0=frameOf nb):=Lib.hid (by unfold outK; rw [hnb]; rfl)
 have HOS:=Lib.hid (fun k=>outK_size (s:=s0) hz k)
 have HOI:=Lib.hid (fun k (hk:k<(piecesB s0).length)=>outK_succ (s:=s0) hk)
 have HPS:=Lib.hid (pieces_size s0)
 have HPF:=Lib.hid (pieces_few hz)
 have HF1:Hid (∀ W,Calls Tryz.prog 41 #[.string nb] W _):=Lib.hid fun W=>reFrame_any nb W (by omega)
 have HZ:=Lib.hid hz
 have HPC:Hid (∀ W,Calls Tryz.prog 122 #[.string s0] W (StrsP W (piecesB s0))):=Lib.hid fun W=>rpieces_any s0 W (by omega)
 clear H htab hz hs0 hnb hnbs hr
 obtain⟨tm,vo,ba,bt,rs,sn,vs⟩:=h
 unfold Hd.val at *
 dsimp only at *
 have HB0:=Lib.hid ((Below.refl w.heap.size w).alloc (Nat.le_refl _) (.cells #[.int .i64 tm,.int .i64 vo,.int .i64 ba,.int .i64 bt,.slice ar nr cr,.string sn,.slice av nv cv] 42))
 have HK0:Hid (Blk (w.alloc (.cells #[.int .i64 tm,.int .i64 vo,.int .i64 ba,.int .i64 bt,.slice ar nr cr,.string sn,.slice av nv cv] 42)) w.heap.size 42 [.int .i64 tm,.int .i64 vo,.int .i64 ba,.int .i64 bt,.slice ar nr cr,.string sn,.slice av nv cv]):=Lib.hid (heap_alloc_new w _)
 have x0:=HK0.out.cell (j:=0) rfl
 have x1:=HK0.out.cell (j:=1) rfl
 have x2:=HK0.out.cell (j:=2) rfl
 have x3:=HK0.out.cell (j:=3) rfl
 have x4:=HK0.out.cell (j:=4) rfl
 have x5:=HK0.out.cell (j:=5) rfl
 have x6:=HK0.out.cell (j:=6) rfl
 go_enter Tryz.func110,Tryz.ntmps110
 go_wp2_with fail
 refine (HPUT.out _ HB0.out).mono ?_
 rintro e w1 ⟨rfl,hb1⟩
 dsimp only
 have HB1:=Lib.hid (below_then HB0.out hb1 HB0.out.size)
 clear x0 x1 x2 x3 x4 x5 x6 HB0 HK0 hb1 HPUT
 go_wp2_with fail
 refine (HPC.out w1).mono ?_
 rintro e w3 ⟨a,n,c,rfl,hsl,hb3,-,-⟩
 have HW2:=Lib.hid (below_then HB1.out hb3 HB1.out.size)
 have hln:n=(piecesB s0).length:=by have:=hsl.1; rwa [strs_length] at this
 have HSL:=Lib.hid hsl
 have HN:=Lib.hid hln
 rw [← hln] at HCP
 clear hb3 hsl hln HPC
 go_wp2_with fail
 refine (rnum14_any _ w3).mono ?_
 rintro e w4 ⟨rfl,hb4⟩
 have HB4:=Lib.hid (below_then HW2.out hb4 HW2.out.size)
 have HS4:=Lib.hid (SlAt.keep HSL.out hb4)
 clear hb4 HW2 HSL
 go_wp2_with fail
 refine (HCP.out _ HB4.out).mono ?_
 rintro e w5 ⟨rfl,hb5⟩
 have HB5:=Lib.hid (below_then HB4.out hb5 HB4.out.size)
 have HS5:=Lib.hid (SlAt.keep HS4.out hb5)
 clear hb5 HB4 HS4 HCP
 go_wp2_with fail
 refine (HF1.out w5).mono ?_
 rintro e w6 ⟨rfl,hb6⟩
 have HB6:=Lib.hid (below_then HB5.out hb6 HB5.out.size)
 have HS6:=Lib.hid (SlAt.keep HS5.out hb6)
 clear hb6 HB5 HS5 HF1
 go_wp2_with fail
 go_loopg [8,29] n (fun gk v8 v29 wr=>∃ (k:Nat) (o:ByteArray),k≤n∧gk=n - k∧v29 = .int .i64 (k:Int)∧v8 = .string o∧Hid (o=outK s0 k)∧Hid (Below w.heap.size w wr)∧Hid (SlAt wr a n (strs (piecesB s0))))
 case atStart=>exact⟨0,frameOf nb,Nat.zero_le _,rfl,rfl,rfl,Lib.hid HO0.out.symm,HB6,HS6⟩
 case round =>
  obtain⟨k,o,hk,rfl,rfl,rfl,hO2,hW2,hS2⟩:=hrel
  have hoz:o.size≤200000:=by rw [hO2.out]; exact HOS.out k
  by_cases hlt:k<n
  ·obtain⟨-,b,off,rfl,hcells⟩:=SlAt.str hS2.out (by omega)
   have hkp:k<(piecesB s0).length:=by rw [← HN.out]; exact hlt
   have c0:=hcells k hkp
   have hki:(k:Int)<(n:Int):=by omega
   have hn3:n≤3:=by have:=HN.out; have:=HPF.out; omega
   have hpz:=HPS.out _ (List.getElem_mem hkp)
   have HO3:=Lib.hid (HOI.out k hkp)
   have HFK:=Lib.hid (fun W=>reFrame_any (piecesB s0)[k] W (by omega))
   have hfz:=frameOf_size (piecesB s0)[k]
   clear hcells
   generalize (piecesB s0)[k]=p at *
   obtain⟨f,hf⟩:∃ f,f=frameOf p:=⟨_,rfl⟩
   rw [← hf] at HFK HO3 hfz
   have hfz2:f.size≤60012:=by omega
   clear hf hfz hpz
   go_wp2_with fail
   refine (HFK.out _).mono ?_
   rintro e w7 ⟨rfl,hb7⟩
   have HB7:=Lib.hid (below_then hW2.out hb7 hW2.out.size)
   have HS7:=Lib.hid (SlAt.keep hS2.out hb7)
   clear hb7 hW2 hS2 HFK c0
   go_wp2_with fail
   go_roundg (n - (k+1))
   case rel=>exact⟨k+1,o++f,by omega,rfl,by go_num,rfl,Lib.hid (by rw [HO3.out,← hO2.out]),HB7,HS7⟩
   case measure=>omega
  ·have hki:(n:Int)≤(k:Int):=by omega
   have HEQ:Hid (o=wholeB s0):=Lib.hid (by rw [hO2.out,← HOA.out,← HN.out]; congr 1; omega)
   clear hO2
   go_wp2_with fail
   go_ret
   exact⟨by rw [HEQ.out]; rfl,hW2.out⟩
end Go.Proofs.YtlpgbmaoenncjaaGreatDoor

/-
  The walk of slices.Delete of one file: the row is rewritten in place; the texts within reach.
  The walk of Remove: what it makes of any disk; new blocks alone are made; the texts within reach.
  The walk of slices.Insert of one file: a row of one's own behind it; the texts within reach.
  The walk of Write's function value: what it makes of files; what is not its own is kept; the texts within reach.
  The walk of Write: what it makes of any disk; new blocks alone are made; the texts within reach.
-/
import Derived.Test.YtlpgbmaoenncjaaGreatDoorDkTwo
import Derived.Test.YtlpgbmaoenncjaaGreatDoorGen
import Derived.Deep.RegionWith
import Derived.StillTailTactics
import Derived.Lib.Overlaps
import Derived.Lib.AppendZerosOnto
import Derived.Lib.SliceRun
import Derived.Laws.Externs
import Derived.WalkLawsBesides
namespace Go.Proofs.YtlpgbmaoenncjaaGreatDoor
open Go.RowKit Go.BigFrame
set_option linter.unusedVariables false
set_option maxRecDepth 100000
theorem zeroFile:∀ w,(zeroValue 55).run Tryz.prog w = .ok (.agg #[.string ⟨#[]⟩,.string ⟨#[]⟩,.string ⟨#[]⟩]) w:=fun _=>by kernel_rfl
def zFl:Fl:=⟨⟨#[]⟩,⟨#[]⟩,⟨#[]⟩⟩
theorem Blk.reads {w:World}{g:Nat}{t:TypeId}{cs:List Value}(h:Blk w g t cs) {off:Nat}{news:List Value}(hn:∀ j u,news[j]? = some u→cs[off+j]? = some u):Reads w ⟨g,off,none⟩ news:=by
 intro j u hj
 rw [Enc.add_is]
 exact h.cell (hn j u hj)
theorem splice_take {α:Type}(L:List α) (off:Nat) (cs:List α) (h:off≤L.length) (m:Nat) (hm:m=off+cs.length):(splice L off cs).take m=L.take off++cs:=by
 subst hm
 unfold splice
 rw [← List.append_assoc]
 have:(L.take off++cs).length=off+cs.length:=by rw [List.length_append,List.length_take]; omega
 rw [List.take_append_of_le_length (by omega),List.take_of_length_le (by omega)]
theorem splice_before {α:Type}(L:List α) (off:Nat) (cs:List α) (m:Nat) (h:m≤off) (ho:off≤L.length):(splice L off cs).take m=L.take m:=by
 unfold splice
 rw [List.take_append_of_le_length (by rw [List.length_take]; omega),List.take_take,Nat.min_eq_left h]
theorem cells_take (l:List Fl) (k:Nat):(flE.cells l).take (k*3)=flE.cells (l.take k):=by
 by_cases hk:k≤l.length
 ·conv=>lhs; rw [← List.take_append_drop k l,flE.cells_append]
  have h1:(flE.cells (l.take k)).length=k*3:=by rw [flE.cells_length,List.length_take,Nat.min_eq_left hk]; rfl
  rw [List.take_append_of_le_length (by omega),List.take_of_length_le (by omega)]
 ·have h1:(flE.cells l).length=l.length*3:=flE.cells_length l
  rw [List.take_of_length_le (by omega),List.take_of_length_le (by omega)]
theorem cells_drop (l:List Fl) (k:Nat):(flE.cells l).drop (k*3)=flE.cells (l.drop k):=by
 by_cases hk:k≤l.length
 ·conv=>lhs; rw [← List.take_append_drop k l,flE.cells_append]
  have h1:(flE.cells (l.take k)).length=k*3:=by rw [flE.cells_length,List.length_take,Nat.min_eq_left hk]; rfl
  rw [List.drop_append_of_le_length (by omega),List.drop_of_length_le (by omega),List.nil_append]
 ·have h1:(flE.cells l).length=l.length*3:=flE.cells_length l
  rw [List.drop_of_length_le (by omega),List.drop_of_length_le (by omega)]; rfl
set_option maxHeartbeats 2000000 in
set_option maxRecDepth 100000 in
theorem delete_room (g n c base:Nat) (l:List Fl) (k:Nat) (w:World) (h:w.ownsRow base 55 3 (.slice (some ⟨g,0,none⟩) n c) n (flE.cells l)) (hk:k<n) (hn:n≤1000000) (hc:k+1<c) :
 Calls Tryz.prog 157 #[.slice (some ⟨g,0,none⟩) n c,.int .i64 (k:Int),.int .i64 ((k:Int)+1)] w fun e w' =>
  e = .returned (.slice (some ⟨g,0,none⟩) (n - 1) c)∧w'.ownsRow base 55 3 (.slice (some ⟨g,0,none⟩) (n - 1) c) (n - 1) (flE.cells (l.take k++l.drop (k+1)))∧But (fun i=>i=g) w w':=by
 obtain⟨i0,hi,hz0,hz1,hz2⟩:=info_parts infoFile
 have HI:=Lib.hid hi
 have HZ:=Lib.hid (And.intro hz0 (And.intro hz1 hz2))
 clear hi hz0 hz1 hz2
 have hln:n*3=(flE.cells l).length:=h.1.symm
 rw [flE.cells_length] at hln
 have hln:l.length=n:=by have:flE.k=3:=rfl; rw [this] at hln; omega
 obtain⟨cs,hb,hcl,htk,hbg,hnc,hcm,-⟩:=own_blk h
 have HB:=Lib.hid hb
 have HF:=Lib.hid (And.intro hcl (And.intro htk (And.intro hbg (And.intro hcm hln))))
 clear h hb hcl htk hln
 have hki:(k:Int)<(n:Int):=by omega
 have hk1:(k:Int)+1≤(n:Int):=by omega
 have hci:(k:Int)+1<(c:Int):=by omega
 have hnci:(n:Int)≤(c:Int):=by omega
 unfold maxLen at hcm
 have hne:((k:Int)==(k:Int)+1)=false:=beq_eq_false_iff_ne.2 (by omega)
 obtain⟨p,hp⟩:∃ p,n=p+1:=⟨n - 1,by omega⟩
 have HP:=Lib.hid hp
 have hkp:k≤p:=by omega
 have hpn:(p:Int)<(n:Int):=by omega
 have hNL:Hid ((flE.cells (l.drop (k+1))).length=(n - (k+1))*3):=Lib.hid (by
  rw [flE.cells_length,List.length_drop,HF.out.2.2.2.2]; rfl)
 have hNR:Hid (Reads w ⟨g,(k+1)*3,none⟩ (flE.cells (l.drop (k+1)))):=Lib.hid (HB.out.reads fun j u hj=>by
  rw [← cells_drop,← HF.out.2.1,List.drop_take,List.getElem?_take] at hj
  split at hj
  ·rw [List.getElem?_drop] at hj; exact hj
  ·cases hj)
 have hEP:Hid (k+(n - (k+1))=p):=Lib.hid (by omega)
 have hNP:Hid (n - p=1):=Lib.hid (by omega)
 have hFT:Hid (k*3+(flE.cells (l.drop (k+1))).length≤cs.length):=Lib.hid (by rw [hNL.out,HF.out.1]; omega)
 have hN1:Hid (n - 1=p):=Lib.hid (by omega)
 rw [hN1.out]
 have hkc:k≤c:=by omega
 have hkn:k+1≤n:=by omega
 have hcne:¬ c=k+1:=by omega
 have hk0:(0:Int)≤(k:Int)+1:=by omega
 clear hp
 go_enter Tryz.func157,Tryz.ntmps157
 go_wp2_with fail
 go_still_tail 6,(by kernel_rfl)
 change wpList _ _ _ _ _ w.drew
 refine wpList_app_blk rfl _ _ 36 rfl 55 i0 3 Tryz.underlying36 HI.out HZ.out.2.1 g k c cs HB.out rfl ⟨g,(k+1)*3,none⟩ (n - (k+1)) (c - (k+1)) (flE.cells (l.drop (k+1))) rfl hNL.out hNR.out (flE.cells_one _) (by omega) hFT.out ?_
 intro w2 hb2 hg2
 rw [hEP.out]
 have hzs:Hid (Builtin.zeroCells (Value.agg #[.string ⟨#[]⟩,.string ⟨#[]⟩,.string ⟨#[]⟩]).cells 1=(flE.enc zFl).toArray):=Lib.hid (by kernel_rfl)
 have hpc:p≤c:=by omega
 have hl2:Hid ((splice cs (k*3) (flE.cells (l.drop (k+1)))).length=c*3):=Lib.hid (by rw [length_splice _ _ _ hFT.out,HF.out.1])
 have hcl:=run_clear_blk (P:=Tryz.prog) (w:=w2) 36 0 55 _ (flE.enc zFl) Tryz.underlying36 zeroFile (g:=g) (off:=p*3) (n:=n - p) (c:=c - p) hb2.out (by omega) (by rw [hNP.out,hzs.out]) (flE.one _) (by rw [hl2.out,flE.len]; show p*3+3≤c*3; have:=HP.out; omega)
 have hb3:=Lib.hid (hb2.out.row (splice (splice cs (k*3) (flE.cells (l.drop (k+1)))) (p*3) (flE.enc zFl)))
 generalize w2.setRow g (splice (splice cs (k*3) (flE.cells (l.drop (k+1)))) (p*3) (flE.enc zFl)).toArray=w3 at hcl hb3
 go_wp2_with fail
 go_ret
 refine⟨rfl,blk_own hb3.out.1 ?_ hbg (by omega) HF.out.2.2.2.1 ?_,?_⟩
 ·rw [length_splice _ _ _ (by rw [hl2.out,flE.len]; show p*3+3≤c*3; have:=HP.out; omega),hl2.out]
 ·rw [splice_before _ _ _ _ (Nat.le_refl _) (by rw [hl2.out]; have:=HP.out; omega),splice_take _ _ _ (by rw [HF.out.1]; omega) _ (by rw [hNL.out]; have:=HP.out; omega),flE.cells_append,← cells_take,← HF.out.2.1,List.take_take,Nat.min_eq_left (by omega)]
 ·exact ((But.refl _ w).drewN 1).trans ((But.ofGrown hg2.out).trans (But.ofGrown hb3.out.2)) |>.mono (fun i _ e=>by cases e; rfl)
set_option maxHeartbeats 2000000 in
set_option maxRecDepth 100000 in
theorem delete_end (g n c base:Nat) (l:List Fl) (k:Nat) (w:World) (h:w.ownsRow base 55 3 (.slice (some ⟨g,0,none⟩) n c) n (flE.cells l)) (hk:k<n) (hn:n≤1000000) (hc:c=k+1) :
 Calls Tryz.prog 157 #[.slice (some ⟨g,0,none⟩) n c,.int .i64 (k:Int),.int .i64 ((k:Int)+1)] w fun e w' =>
  e = .returned (.slice (some ⟨g,0,none⟩) (n - 1) c)∧w'.ownsRow base 55 3 (.slice (some ⟨g,0,none⟩) (n - 1) c) (n - 1) (flE.cells (l.take k++l.drop (k+1)))∧But (fun i=>i=g) w w':=by
 obtain⟨i0,hi,hz0,hz1,hz2⟩:=info_parts infoFile
 have HI:=Lib.hid hi
 have HZ:=Lib.hid (And.intro hz0 (And.intro hz1 hz2))
 clear hi hz0 hz1 hz2
 have hln:n*3=(flE.cells l).length:=h.1.symm
 rw [flE.cells_length] at hln
 have hln:l.length=n:=by have:flE.k=3:=rfl; rw [this] at hln; omega
 obtain⟨cs,hb,hcl,htk,hbg,hnc,hcm,-⟩:=own_blk h
 have HB:=Lib.hid hb
 have HF:=Lib.hid (And.intro hcl (And.intro htk (And.intro hbg (And.intro hcm hln))))
 clear h hb hcl htk hln
 have hki:(k:Int)<(n:Int):=by omega
 have hk1:(k:Int)+1≤(n:Int):=by omega
 have hci:(k:Int)+1≤(c:Int):=by omega
 have hnci:(n:Int)≤(c:Int):=by omega
 unfold maxLen at hcm
 have hne:((k:Int)==(k:Int)+1)=false:=beq_eq_false_iff_ne.2 (by omega)
 obtain⟨p,hp⟩:∃ p,n=p+1:=⟨n - 1,by omega⟩
 have HP:=Lib.hid hp
 have hkp:k≤p:=by omega
 have hpn:(p:Int)<(n:Int):=by omega
 have hNL:Hid ((flE.cells (l.drop (k+1))).length=(n - (k+1))*3):=Lib.hid (by
  rw [flE.cells_length,List.length_drop,HF.out.2.2.2.2]; rfl)
 have hNR:Hid (Reads w ⟨g,0,none⟩ (flE.cells (l.drop (k+1)))):=Lib.hid (by
  rw [List.drop_of_length_le (by rw [HF.out.2.2.2.2]; omega)]
  intro j u hj
  exact absurd hj (by simp [Enc.cells]))
 have hEP:Hid (k+(n - (k+1))=p):=Lib.hid (by omega)
 have hNP:Hid (n - p=1):=Lib.hid (by omega)
 have hFT:Hid (k*3+(flE.cells (l.drop (k+1))).length≤cs.length):=Lib.hid (by rw [hNL.out,HF.out.1]; omega)
 have hN1:Hid (n - 1=p):=Lib.hid (by omega)
 rw [hN1.out]
 have hkc:k≤c:=by omega
 have hkn:k+1≤n:=by omega
 have hcne:(c=k+1)=True:=eq_true hc
 have hnk:n=k+1:=by omega
 have HNK:=Lib.hid hnk
 clear hnk
 have hk0:(0:Int)≤(k:Int)+1:=by omega
 have HC:=Lib.hid hc
 clear hp hc
 go_enter Tryz.func157,Tryz.ntmps157
 go_wp2_with fail
 go_still_tail 6,(by kernel_rfl)
 change wpList _ _ _ _ _ w.drew
 refine wpList_app_blk rfl _ _ 36 rfl 55 i0 3 Tryz.underlying36 HI.out HZ.out.2.1 g k c cs HB.out rfl ⟨g,0,none⟩ (n - (k+1)) (c - (k+1)) (flE.cells (l.drop (k+1))) rfl hNL.out hNR.out (flE.cells_one _) (by have:=HNK.out; have:=HC.out; omega) hFT.out ?_
 intro w2 hb2 hg2
 rw [hEP.out]
 have hzs:Hid (Builtin.zeroCells (Value.agg #[.string ⟨#[]⟩,.string ⟨#[]⟩,.string ⟨#[]⟩]).cells 1=(flE.enc zFl).toArray):=Lib.hid (by kernel_rfl)
 have hpc:p≤c:=by omega
 have hl2:Hid ((splice cs (k*3) (flE.cells (l.drop (k+1)))).length=c*3):=Lib.hid (by rw [length_splice _ _ _ hFT.out,HF.out.1])
 have hcl:=run_clear_blk (P:=Tryz.prog) (w:=w2) 36 0 55 _ (flE.enc zFl) Tryz.underlying36 zeroFile (g:=g) (off:=p*3) (n:=n - p) (c:=c - p) hb2.out (by omega) (by rw [hNP.out,hzs.out]) (flE.one _) (by rw [hl2.out,flE.len]; show p*3+3≤c*3; have:=HP.out; omega)
 have hb3:=Lib.hid (hb2.out.row (splice (splice cs (k*3) (flE.cells (l.drop (k+1)))) (p*3) (flE.enc zFl)))
 generalize w2.setRow g (splice (splice cs (k*3) (flE.cells (l.drop (k+1)))) (p*3) (flE.enc zFl)).toArray=w3 at hcl hb3
 go_wp2_with fail
 go_ret
 refine⟨rfl,blk_own hb3.out.1 ?_ hbg (by omega) HF.out.2.2.2.1 ?_,?_⟩
 ·rw [length_splice _ _ _ (by rw [hl2.out,flE.len]; show p*3+3≤c*3; have:=HP.out; omega),hl2.out]
 ·rw [splice_before _ _ _ _ (Nat.le_refl _) (by rw [hl2.out]; have:=HP.out; omega),splice_take _ _ _ (by rw [HF.out.1]; omega) _ (by rw [hNL.out]; have:=HP.out; omega),flE.cells_append,← cells_take,← HF.out.2.1,List.take_take,Nat.min_eq_left (by omega)]
 ·exact ((But.refl _ w).drewN 1).trans ((But.ofGrown hg2.out).trans (But.ofGrown hb3.out.2)) |>.mono (fun i _ e=>by cases e; rfl)
theorem delete_any (g n c base:Nat) (l:List Fl) (k:Nat) (w:World) (h:w.ownsRow base 55 3 (.slice (some ⟨g,0,none⟩) n c) n (flE.cells l)) (hk:k<n) (hn:n≤1000000) :
 Calls Tryz.prog 157 #[.slice (some ⟨g,0,none⟩) n c,.int .i64 (k:Int),.int .i64 ((k:Int)+1)] w fun e w' =>
  e = .returned (.slice (some ⟨g,0,none⟩) (n - 1) c)∧w'.ownsRow base 55 3 (.slice (some ⟨g,0,none⟩) (n - 1) c) (n - 1) (flE.cells (l.take k++l.drop (k+1)))∧But (fun i=>i=g) w w':=by
 obtain⟨cs,_,_,_,_,hnc,_,_⟩:=own_blk h
 by_cases hc:k+1<c
 ·exact delete_room g n c base l k w h hk hn hc
 ·exact delete_end g n c base l k w h hk hn (by omega)
end Go.Proofs.YtlpgbmaoenncjaaGreatDoor

namespace Go.Proofs.YtlpgbmaoenncjaaGreatDoor
open Go.RowKit Go.BigFrame
set_option linter.unusedVariables false
set_option maxRecDepth 100000
set_option maxHeartbeats 1000000 in
theorem remove_fs (l:List Fl) (k B:Nat) (S:Nat→Prop) (w:World) (hk:k<l.length) (h8:l.length≤1000000) (ho:One w B 3 (.int .i64 (k:Int))) :
 FsFn 156 #[.pointer (some ⟨B,0,none⟩)] l (l.take k++l.drop (k+1)) S w:=by
 intro W v base hb h0 h1 hrow
 show Calls Tryz.prog 156 #[v,.pointer (some ⟨B,0,none⟩)] W _
 obtain⟨a,c,rfl⟩:=own_shape hrow
 obtain⟨g,rfl,hg1,hg2⟩:=own_some hrow (by omega)
 have hcB:W.cell? ⟨B,0,none⟩=some (.int .i64 (k:Int)):=(ho.below hb).cell
 have H:=Lib.hid (delete_any g l.length c base l k W hrow hk h8)
 have hlen:Hid ((l.take k++l.drop (k+1)).length=l.length - 1):=Lib.hid (by rw [List.length_append,List.length_take,List.length_drop]; omega)
 generalize (l.take k++l.drop (k+1))=L at *
 generalize l.length=n at *
 have hkn:(k:Int)<(n:Int):=by omega
 clear hrow ho
 go_enter Tryz.func156,Tryz.ntmps156
 go_wp2_with fail
 refine H.out.mono ?_
 rintro e w1 ⟨rfl,h1,h2⟩
 have H1:=Lib.hid h1
 have H2:=Lib.hid h2
 clear h1 h2
 go_wp2_with fail
 go_ret
 exact⟨_,rfl,by rw [hlen.out]; exact H1.out,H2.out.mono (fun i _ e=>.inr (by rw [e]; exact hg1))⟩
set_option maxHeartbeats 2000000 in
theorem remove_any (a:Option Addr) (n c:Nat) (d:Dk) (nm:ByteArray) (w:World) (h:DkAt w a n c d) (hs:nm.size≤maxLen) :
 Calls Tryz.prog 105 #[d.val a n c,.string nm] w (RetDk w (removeD d nm)):=by
 have hmf:∀ fn first cap w,(Instr.makeFunc fn first cap).run Tryz.prog w = .ok (.func fn first cap) w:=fun _ _ _ _=>rfl
 have HA:=Lib.hid (two_below w d a n c)
 have HB:=Lib.hid (two_box w d a n c)
 have HO:=Lib.hid (two_out w d a n c)
 have H:=Lib.hid h
 have hnb:=h.nb
 obtain⟨r0,hr0⟩:∃ r0,r0=readyD d [nm]:=⟨_,rfl⟩
 have hr:=Lib.hid (ready_one a n c d nm w _ h (two_below w d a n c) hs (w.heap.size+2) (by unfold twoW; simp) r0 (Lib.hid hr0))
 obtain⟨k0,hk0⟩:∃ k0,k0=atL d.files nm:=⟨_,rfl⟩
 have hf:=Lib.hid (fun (W:World) (hb:Below w.heap.size w W)=>find_any a n c d.files nm W (h.sl.keep hb) hnb k0 (Lib.hid hk0))
 have hright:=remove_right (d:=d) (nm:=nm)
 obtain⟨r,hre⟩:∃ r,r=removeD d nm:=⟨_,rfl⟩
 rw [← hre] at hright ⊢
 have hre2:=hre
 unfold removeD at hre2
 rw [← hr0,← hk0] at hre2
 clear h
 by_cases hz:r0=0
 ·subst hz
  rw [if_neg (by simp)] at hre2
  by_cases hk:k0<0
  ·rw [if_pos hk] at hre2
   clear hr0 hk0 hre hright
   subst hre2
   unfold twoW at *
   obtain⟨rm,l,lf,dn⟩:=d
   unfold Dk.val at *
   dsimp only at *
   go_enter Tryz.func105,Tryz.ntmps105
   go_wp2_with fail
   refine hr.out.mono ?_
   rintro e w1 ⟨rfl,hb1⟩
   have HB1:=Lib.hid (below_then HA.out hb1 HA.out.size)
   have hB1:=HB.out.keep hb1
   have o1:=Four.keep HO.out hb1
   have q0:=hB1.c0; have q1:=hB1.c1; have q2:=hB1.c2; have q3:=hB1.c3
   have O1:=Lib.hid o1
   have P1:=Lib.hid hB1
   have hz1:w.heap.size+1<w1.heap.size:=by have:=hb1.size; simp at this; omega
   clear hB1 o1 hb1
   go_wp2_with fail
   refine (hf.out w1 HB1.out).mono ?_
   rintro e w2 ⟨rfl,hb2⟩
   have HB2:=Lib.hid ((below_then HB1.out hb2 HB1.out.size).alloc (below_then HB1.out hb2 HB1.out.size).size (.cells #[.int .i64 k0] 3))
   have o2:=(Four.keep O1.out hb2).alloc (.cells #[.int .i64 k0] 3)
   have e0:=o2.c0; have e1:=o2.c1; have e2:=o2.c2; have e3:=o2.c3
   have g0:=o2.free 0; have g1:=o2.free 1; have g2:=o2.free 2; have g3:=o2.free 3
   clear o2 hb2 q0 q1 q2 q3
   go_wp2_with fail
   refine bodyPost_ret (v:=.tuple #[.agg #[.int .i64 0,.slice none 0 0,.int .i64 0,.bool false],.int .i64 60]) ?_ rfl ?_
   ·rw [results_cell_tmp rfl]; go_simp
   ·exact RetDk.zero4 60 _ HB2.out (by omega)
  ·rw [if_neg hk] at hre2
   have hrd:=(ready_parts hr0.symm)
   rw [hk0] at hk
   obtain⟨j,hj,hj1,hj2,hj3⟩:=atL_lt hk
   rw [hj1] at hk0
   subst hk0
   have hln:=H.out.len
   have h8:=(rightD_nums hrd.1).2.1
   have hsm:=right_small hrd.1 d.files[j] (List.getElem_mem hj)
   have hpl:without d.files nm=d.files.take j++d.files.drop (j+1):=by rw [← hj2,without_at (rightD_fs hrd.1).2 hj]
   rw [hre2] at hright
   have hdone:=Lib.hid (fun (W:World) (B:Nat) (hb:Below w.heap.size w W) (ho:One W B 3 (.int .i64 (j:Int)))=>by
    have:=done_any a n c d 156 149 #[.pointer (some ⟨B,0,none⟩)] #[] _ d.files (fun _=>False) W (H.out.keep hb) (by omega) enters_remove enters_same (hpl ▸ remove_fs d.files j B _ W hj (by omega) ho) (same_fs _ _ _) (fun _ h=>h.elim) hright
    rw [← hre2] at this
    exact this)
   have hjn:¬ ((j:Int)<0):=by omega
   clear hr0 hre hright hre2 hrd hk hj1 hj2 hj3 h8 hsm hpl hln
   unfold twoW at *
   obtain⟨rm,l,lf,dn⟩:=d
   unfold Dk.val at *
   dsimp only at *
   go_enter Tryz.func105,Tryz.ntmps105
   go_wp2_with fail
   refine hr.out.mono ?_
   rintro e w1 ⟨rfl,hb1⟩
   have HB1:=Lib.hid (below_then HA.out hb1 HA.out.size)
   have hB1:=HB.out.keep hb1
   have o1:=Four.keep HO.out hb1
   have q0:=hB1.c0; have q1:=hB1.c1; have q2:=hB1.c2; have q3:=hB1.c3
   have O1:=Lib.hid o1
   have P1:=Lib.hid hB1
   have hz1:w.heap.size+1<w1.heap.size:=by have:=hb1.size; simp at this; omega
   clear hB1 o1 hb1
   go_wp2_with fail
   refine (hf.out w1 HB1.out).mono ?_
   rintro e w2 ⟨rfl,hb2⟩
   have HB2:=Lib.hid ((below_then HB1.out hb2 HB1.out.size).alloc (below_then HB1.out hb2 HB1.out.size).size (.cells #[.int .i64 (j:Int)] 3))
   have O2:=Lib.hid ((Four.keep O1.out hb2).alloc (.cells #[.int .i64 (j:Int)] 3))
   have p2:=(Four.keep P1.out hb2).alloc (.cells #[.int .i64 (j:Int)] 3)
   have hone:=One.new w2 3 (.int .i64 (j:Int))
   have hsz2:w1.heap.size≤w2.heap.size:=hb2.size
   clear hb2 q0 q1 q2 q3
   have q0:=p2.c0; have q1:=p2.c1; have q2:=p2.c2; have q3:=p2.c3
   have hc9:=hdone.out _ _ HB2.out hone
   have HC9:=Lib.hid hc9
   clear hc9 hone p2
   go_wp2_with fail
   refine HC9.out.mono ?_
   rintro e w3 ⟨a3,n3,c3,rfl,hbd,hx3⟩
   obtain⟨⟨rm3,l3,lf3,dn3⟩,x3⟩:=r
   have o2:=hbd.1.four O2.out (fun h=>h)
   have HBD:=Lib.hid hbd
   have HX3:=Lib.hid hx3
   clear hbd hx3 q0 q1 q2 q3
   have e0:=o2.c0; have e1:=o2.c1; have e2:=o2.c2; have e3:=o2.c3
   have g0:=o2.free 0; have g1:=o2.free 1; have g2:=o2.free 2; have g3:=o2.free 3
   clear o2
   unfold Dk.val
   dsimp only
   go_wp2_with fail
   refine bodyPost_ret (v:=.tuple #[.agg #[.int .i64 rm3,.slice a3 n3 c3,.int .i64 lf3,.bool dn3],.int .i64 x3]) ?_ rfl ?_
   ·rw [results_cell_tmp rfl]; go_simp
   ·exact ret_out (r:=(⟨rm3,l3,lf3,dn3⟩,x3)) HB2.out (fun _ h=>h.elim) HBD.out HX3.out (by omega) (by simp; omega) _ _ _ _
 ·rw [if_pos hz] at hre2
  have hne:(r0 != 0)=true:=bne_iff_ne.2 hz
  clear hr0 hk0 hre hright hf hz
  subst hre2
  unfold twoW at *
  obtain⟨rm,l,lf,dn⟩:=d
  unfold Dk.val at *
  dsimp only at *
  go_enter Tryz.func105,Tryz.ntmps105
  go_wp2_with fail
  refine hr.out.mono ?_
  rintro e w1 ⟨rfl,hb1⟩
  have HB1:=Lib.hid (below_then HA.out hb1 HA.out.size)
  have hB1:=HB.out.keep hb1
  have o1:=Four.keep HO.out hb1
  have q0:=hB1.c0; have q1:=hB1.c1; have q2:=hB1.c2; have q3:=hB1.c3
  have O1:=Lib.hid o1
  have P1:=Lib.hid hB1
  have hz1:w.heap.size+1<w1.heap.size:=by have:=hb1.size; simp at this; omega
  clear hB1 o1 hb1
  have o2:=O1.out
  have e0:=o2.c0; have e1:=o2.c1; have e2:=o2.c2; have e3:=o2.c3
  have g0:=o2.free 0; have g1:=o2.free 1; have g2:=o2.free 2; have g3:=o2.free 3
  clear o2 q0 q1 q2 q3
  go_wp2_with fail
  refine bodyPost_ret (v:=.tuple #[.agg #[.int .i64 0,.slice none 0 0,.int .i64 0,.bool false],.int .i64 r0]) ?_ rfl ?_
  ·rw [results_cell_tmp rfl]; go_simp
  ·exact RetDk.zero4 r0 _ HB1.out (by omega)
end Go.Proofs.YtlpgbmaoenncjaaGreatDoor

namespace Go.Proofs.YtlpgbmaoenncjaaGreatDoor
open Go.RowKit Go.BigFrame
set_option linter.unusedVariables false
set_option maxRecDepth 100000
def insAt (l:List Fl) (i:Nat) (x:Fl):List Fl:=l.take i++x :: l.drop i
def flVal (x:Fl):Value:=.agg #[.string x.nm,.string x.sy,.string x.ta]
theorem enc_sl {w:World}{b:Nat}{x:Fl}(h:Blk w b 55 (flE.enc x)):flE.Sl w (some ⟨b,0,none⟩) 1 [x] :=
 Enc.Sl.ofCells (E:=flE) (d:=[x]) fun j u hu=>by
  rw [flE.cells_cons,flE.cells_nil,List.append_nil] at hu
  rw [Nat.zero_add]
  exact h.cell hu
set_option maxRecDepth 100000 in
set_option maxHeartbeats 2000000 in
theorem insert_end (a:Option Addr) (n c base:Nat) (l:List Fl) (x:Fl) (bv:Nat) (w:World) (h:w.ownsRow base 55 3 (.slice a n c) n (flE.cells l)) (hn:n≤1000000) (hb:base≤w.heap.size) (hx:Blk w bv 55 (flE.enc x)) :
 Calls Tryz.prog 146 #[.slice a n c,.int .i64 (n:Int),.slice (some ⟨bv,0,none⟩) 1 1] w fun e w' =>
  ∃ v,e = .returned v∧w'.ownsRow base 55 3 v (n+1) (flE.cells (l++[x]))∧But (fun i=>base≤i) w w':=by
 obtain⟨i0,hi,hz0,hz1,hz2⟩:=info_parts infoFile
 have HI:=Lib.hid hi
 have HZ:=Lib.hid (And.intro hz0 (And.intro hz1 hz2))
 clear hi hz0 hz1 hz2
 have HX:=Lib.hid (enc_sl hx)
 have H:=Lib.hid h
 have HBA:=Lib.hid hb
 have hc:a=none∨∃ g,a=some ⟨g,0,none⟩:=by
  rcases h.2 with ⟨hv,_⟩ | ⟨g,cap,cur,hv,_⟩
  ·cases hv; exact .inl rfl
  ·cases hv; exact .inr ⟨_,rfl⟩
 have hnc:n≤c∧c≤9223372036854775807∧(a=none→n=0∧c=0):=by
  have hcm:=own_cm h
  unfold maxLen at hcm
  rcases h.2 with ⟨hv,hk⟩ | ⟨g,cap,cur,hv,_,_,h1,_⟩
  ·cases hv; exact⟨by omega,by omega,fun _=>⟨rfl,rfl⟩⟩
  ·cases hv; exact⟨h1,by omega,fun e=>by cases e⟩
 obtain⟨hnc,hcm,hcn⟩:=hnc
 have fin:Hid (∀ v' w',w'.ownsRow base 55 3 v' (n+1) (flE.cells (l++[x]))→w.grownBy w' (Value.slice a n c).ownBlock→But (fun i=>base≤i) w w'):=Lib.hid fun v' w' ho hg=>(But.ofGrown hg).mono (fun i _ e=>(h.lt i e.symm).1)
 clear h hx hb
 rcases hc with rfl | ⟨g,rfl⟩
 ·obtain⟨rfl,rfl⟩:=hcn rfl
  clear hcn
  go_enter Tryz.func146,Tryz.ntmps146
  go_wp2_with (at_builtin; refine Enc.wpList_app (E:=flE) _ rfl _ _ 36 rfl base 55 i0 _ 48 Tryz.underlying36 HI.out HZ.out.1 HZ.out.2.1 HZ.out.2.2 rfl _ 0 l H.out rfl (some ⟨bv,0,none⟩) 1 1 [x] rfl HX.out (fun e=>by cases e) (by decide) (by decide) HBA.out ?_)
  intro v3 w3 ho3 hg3
  have HO:=Lib.hid ho3
  have HG:=Lib.hid (fin.out v3 w3 ho3 hg3)
  clear ho3 hg3
  go_wp2_with fail
  go_ret
  exact⟨_,rfl,HO.out,HG.out⟩
 ·clear hcn
  have hii:((n:Int)==(n:Int))=true:=beq_iff_eq.2 rfl
  by_cases hcap:c=n
  ·have hce:(c=n)=True:=eq_true hcap
   have HC:=Lib.hid hcap
   clear hcap
   go_enter Tryz.func146,Tryz.ntmps146
   go_wp2_with (at_builtin; refine Enc.wpList_app (E:=flE) _ rfl _ _ 36 rfl base 55 i0 _ 48 Tryz.underlying36 HI.out HZ.out.1 HZ.out.2.1 HZ.out.2.2 rfl _ n l H.out rfl (some ⟨bv,0,none⟩) 1 1 [x] rfl HX.out (fun e=>by cases e) (by unfold maxLen; omega) (by omega) HBA.out ?_)
   intro v3 w3 ho3 hg3
   have HO:=Lib.hid ho3
   have HG:=Lib.hid (fin.out v3 w3 ho3 hg3)
   clear ho3 hg3
   go_wp2_with fail
   go_ret
   exact⟨_,rfl,HO.out,HG.out⟩
  ·go_enter Tryz.func146,Tryz.ntmps146
   go_wp2_with (at_builtin; refine Enc.wpList_app (E:=flE) _ rfl _ _ 36 rfl base 55 i0 _ 48 Tryz.underlying36 HI.out HZ.out.1 HZ.out.2.1 HZ.out.2.2 rfl _ n l H.out rfl (some ⟨bv,0,none⟩) 1 1 [x] rfl HX.out (fun e=>by cases e) (by unfold maxLen; omega) (by omega) HBA.out ?_)
   intro v3 w3 ho3 hg3
   have HO:=Lib.hid ho3
   have HG:=Lib.hid (fin.out v3 w3 ho3 hg3)
   clear ho3 hg3
   go_wp2_with fail
   go_ret
   exact⟨_,rfl,HO.out,HG.out⟩
theorem cells_ins (l:List Fl) (i:Nat) (x:Fl):flE.cells (insAt l i x)=flE.cells (l.take i)++flE.enc x++flE.cells (l.drop i):=by
 unfold insAt
 rw [flE.cells_append,flE.cells_cons,List.append_assoc]
theorem len_cells (l:List Fl):(flE.cells l).length=l.length*3:=flE.cells_length l
theorem shape_blk {w:World}{g:Nat}{t:TypeId}{cs:List Value}(h:Blk w g t cs):w.shape? g=some (t,cs.length):=by
 unfold Blk at h
 simp [World.shape?,h]
theorem two_splices {α:Type}{cs X A C:List α}{m:Nat}(hA:A.length=m) (hcs:cs.take (m+C.length)=A++C) (hX:m+X.length+C.length≤cs.length):(splice (splice cs (m+X.length) C) m X).take (m+X.length+C.length)=A++X++C:=by
 subst hA
 have hc1:A.length+C.length≤cs.length:=by omega
 have e1:cs.take A.length=A:=by
  have:=congrArg (List.take A.length) hcs
  rw [List.take_take,Nat.min_eq_left (by omega),List.take_append_of_le_length (Nat.le_refl _),List.take_of_length_le (Nat.le_refl _)] at this
  exact this
 have hlen:(splice cs (A.length+X.length) C).length=cs.length:=length_splice _ _ _ (by omega)
 have e2:(splice cs (A.length+X.length) C).take A.length=A:=by
  unfold splice
  rw [List.take_append_of_le_length (by rw [List.length_take]; omega),List.take_take,Nat.min_eq_left (by omega),e1]
 have e3:((splice cs (A.length+X.length) C).drop (A.length+X.length)).take C.length=C:=by
  unfold splice
  rw [List.drop_append_of_le_length (by rw [List.length_take]; omega),List.drop_of_length_le (by rw [List.length_take]; omega),List.nil_append,List.take_append_of_le_length (Nat.le_refl _),List.take_of_length_le (Nat.le_refl _)]
 conv=>lhs; rw [splice,e2,← List.append_assoc]
 rw [List.take_append,List.take_of_length_le (by rw [List.length_append]; omega)]
 congr 1
 rw [List.length_append,show A.length+X.length+C.length - (A.length+X.length)=C.length by omega]
 exact e3
set_option maxRecDepth 100000 in
set_option maxHeartbeats 2000000 in
theorem insert_room (g n c base:Nat) (l:List Fl) (i:Nat) (x:Fl) (bv:Nat) (w:World) (h:w.ownsRow base 55 3 (.slice (some ⟨g,0,none⟩) n c) n (flE.cells l)) (hi:i<n) (hn:n≤1000000) (hx:Blk w bv 55 (flE.enc x)) (hne:bv≠g) (hc:n<c) :
 Calls Tryz.prog 146 #[.slice (some ⟨g,0,none⟩) n c,.int .i64 (i:Int),.slice (some ⟨bv,0,none⟩) 1 1] w fun e w' =>
  ∃ v,e = .returned v∧w'.ownsRow base 55 3 v (n+1) (flE.cells (insAt l i x))∧But (fun i=>base≤i) w w':=by
 obtain⟨i0,hi0,hz0,hz1,hz2⟩:=info_parts infoFile
 have HI:=Lib.hid hi0
 have HZ:=Lib.hid (And.intro hz0 (And.intro hz1 hz2))
 clear hi0 hz0 hz1 hz2
 have hln:n*3=(flE.cells l).length:=h.1.symm
 rw [len_cells] at hln
 have hln:l.length=n:=by omega
 obtain⟨cs,hb,hcl,htk,hbg,hnc,hcm,-⟩:=own_blk h
 have HB:=Lib.hid hb
 have HX:=Lib.hid hx
 have HF:=Lib.hid (And.intro hcl (And.intro htk (And.intro hbg (And.intro hcm hln))))
 have hov:∀ lb cb,(callFunc 181 #[.slice (some ⟨bv,0,none⟩) 1 1,.slice (some ⟨g,(i+1)*3,none⟩) lb cb]).run Tryz.prog w = .ok (.value (.bool false)) w:=fun lb cb=>by
  rw [run_callFunc_extern Tryz.func181 (by kernel_rfl) (by kernel_rfl) (by kernel_rfl) (e:=Extern.SlicesOverlaps.overlaps #[36,36] #[4]) (by kernel_rfl),
   Lib.run_overlaps_apart w 36 4 55 Tryz.underlying36 3 (fun _=>by kernel_rfl) ⟨bv,0,none⟩ ⟨g,(i+1)*3,none⟩ 1 1 lb cb hne 55 55 3 cs.length (shape_blk hx) (shape_blk hb) (by omega) (hx.free 0) (hx.free 3)]
  rfl
 clear h hb hcl htk hln hx
 have hii:(i:Int)<(n:Int):=by omega
 have hnci:(n:Int)+1≤(c:Int):=by omega
 have hnci2:(n:Int)<(c:Int):=by omega
 unfold maxLen at hcm
 have hin:((i:Int)==(n:Int))=false:=beq_eq_false_iff_ne.2 (by omega)
 go_enter Tryz.func146,Tryz.ntmps146
 go_wp2_with (simp only [hov])
 clear hov
 have hk0:(0:Int)≤(i:Int)+1:=by omega
 have hic:¬ c=i:=by omega
 have hic1:¬ c=i+1:=by omega
 have hic2:i≤n+1:=by omega
 have hic3:i+1≤n+1:=by omega
 have hic4:(i:Int)+1≤(n:Int)+1:=by omega
 have hic5:(i:Int)≤(n:Int)+1:=by omega
 have hw1:IntKind.i64.wrap ((i:Int)+1)=(i:Int)+1:=by rw [IntKind.wrap_i64]; omega
 have htn:((i:Int)+1).toNat=i+1:=by omega
 go_still_tail 8,(by kernel_rfl)
 clear hw1 htn
 change wpList _ _ _ _ _ w.drew
 have hNL:Hid ((flE.cells (l.drop i)).length=(n - i)*3):=Lib.hid (by rw [len_cells,List.length_drop,HF.out.2.2.2.2])
 have hNR:Hid (Reads w ⟨g,i*3,none⟩ (flE.cells (l.drop i))):=Lib.hid (HB.out.reads fun j u hj=>by
  rw [← cells_drop,← HF.out.2.1,List.drop_take,List.getElem?_take] at hj
  split at hj
  ·rw [List.getElem?_drop] at hj; exact hj
  ·cases hj)
 have hFT:Hid ((i+1)*3+(flE.cells (l.drop i)).length≤cs.length):=Lib.hid (by rw [hNL.out,HF.out.1]; omega)
 refine wpList_copy_blk rfl _ _ 36 36 rfl 55 i0 3 Tryz.underlying36 HI.out HZ.out.2.1 g ((i+1)*3) (n - i) (c - (i+1)) cs HB.out rfl ⟨g,i*3,none⟩ (n+1 - i) (c - i) (n - i) (flE.cells (l.drop i)) rfl (by show n - i=min (n+1 - i) (n - i); omega) hNL.out hNR.out (flE.cells_one _) hFT.out ?_
 intro w2 hb2 hg2
 have hl2:Hid ((splice cs ((i+1)*3) (flE.cells (l.drop i))).length=c*3):=Lib.hid (by rw [length_splice _ _ _ hFT.out,HF.out.1])
 have hx2:Hid (Reads w2 ⟨bv,0,none⟩ (flE.enc x)):=Lib.hid ((Blk.kept (w:=w.drew) HX.out hg2.out (by simpa using hne)).reads fun j u hj=>by rw [Nat.zero_add]; exact hj)
 have hcp:=fun ty=>run_copy_blk (P:=Tryz.prog) (w:=w2) 36 36 ty 55 i0 3 Tryz.underlying36 HI.out HZ.out.2.1 (g:=g) (off:=i*3) (dLen:=n+1 - i) (dCap:=c - i) hb2.out ⟨bv,0,none⟩ 1 1 1 (flE.enc x) (by show 1=min 1 (n+1 - i); omega) (flE.len x) hx2.out (flE.one x) (by rw [hl2.out,flE.len]; show i*3+3≤c*3; omega)
 have hb3:=Lib.hid (hb2.out.row (splice (splice cs ((i+1)*3) (flE.cells (l.drop i))) (i*3) (flE.enc x)))
 generalize w2.setRow g (splice (splice cs ((i+1)*3) (flE.cells (l.drop i))) (i*3) (flE.enc x)).toArray=w3 at hcp hb3
 go_wp2_with fail
 go_ret
 refine⟨_,rfl,blk_own hb3.out.1 ?_ hbg (by omega) HF.out.2.2.2.1 ?_,?_⟩
 ·rw [length_splice _ _ _ (by rw [hl2.out,flE.len]; show i*3+3≤c*3; omega),hl2.out]
 ·have h1:=two_splices (cs:=cs) (X:=flE.enc x) (A:=flE.cells (l.take i)) (C:=flE.cells (l.drop i)) (m:=i*3) (by rw [len_cells,List.length_take,HF.out.2.2.2.2]; omega) (by rw [hNL.out,← flE.cells_append,List.take_append_drop,← HF.out.2.1]; congr 1; omega) (by rw [flE.len,hNL.out,HF.out.1]; show i*3+3+(n - i)*3≤c*3; omega)
  have e3:(flE.enc x).length=3:=flE.len x
  rw [e3,hNL.out,show i*3+3=(i+1)*3 by omega,show (i+1)*3+(n - i)*3=(n+1)*3 by omega] at h1
  rw [h1,cells_ins]
 ·exact ((But.refl _ w).drewN 1).trans ((But.ofGrown hg2.out).trans (But.ofGrown hb3.out.2)) |>.mono (fun i _ e=>by cases e; exact hbg)
set_option maxRecDepth 100000 in
set_option maxHeartbeats 2000000 in
theorem insert_grow (g n c base:Nat) (l:List Fl) (i:Nat) (x:Fl) (bv:Nat) (w:World) (h:w.ownsRow base 55 3 (.slice (some ⟨g,0,none⟩) n c) n (flE.cells l)) (hi:i<n) (hn:n≤1000000) (hx:Blk w bv 55 (flE.enc x)) (hbase:base≤w.heap.size) (hc:c=n) :
 Calls Tryz.prog 146 #[.slice (some ⟨g,0,none⟩) n c,.int .i64 (i:Int),.slice (some ⟨bv,0,none⟩) 1 1] w fun e w' =>
  ∃ v,e = .returned v∧w'.ownsRow base 55 3 v (n+1) (flE.cells (insAt l i x))∧But (fun i=>base≤i) w w':=by
 subst hc
 obtain⟨i0,hi0,hz0,hz1,hz2⟩:=info_parts infoFile
 have hln:c*3=(flE.cells l).length:=h.1.symm
 rw [len_cells] at hln
 have hln:l.length=c:=by omega
 obtain⟨cs,hb,hcl,htk,hbg,hnc,hcm,-⟩:=own_blk h
 have hTL:(flE.cells (l.take i)).length=i*3:=by rw [len_cells,List.length_take,hln]; omega
 have hTR:Reads w ⟨g,0,none⟩ (flE.cells (l.take i)):=hb.reads fun j u hj=>by
  rw [← cells_take,← htk,List.take_take,List.getElem?_take] at hj
  rw [Nat.zero_add]
  split at hj
  ·exact hj
  ·cases hj
 have hold:(Builtin.firstCells i0.size i (.slice (some ⟨g,0,none⟩) i c)).run Tryz.prog w.drew = .ok (flE.cells (l.take i)).toArray w.drew:=run_firstCells_some (P:=Tryz.prog) w.drew i0.size i ⟨g,0,none⟩ i c _ (by rw [hz1]; exact hTL) hTR
 obtain⟨G,hG⟩:∃ G,G=grownCap w (c+1) c 55:=⟨_,rfl⟩
 have hGn:c+1≤G:=hG ▸ grownCap_ge w _ _ _
 have hGm:G≤maxLen:=hG ▸ grownCap_le_maxLen w (c+1) c 55 (by unfold maxLen; omega)
 obtain⟨cs1,hcs1⟩:∃ cs1,cs1=flE.cells (l.take i)++((Builtin.zeroCells (Value.agg #[.string ⟨#[]⟩,.string ⟨#[]⟩,.string ⟨#[]⟩]).cells (c+1 - i)).toList++(Builtin.zeroCells (Value.agg #[.string ⟨#[]⟩,.string ⟨#[]⟩,.string ⟨#[]⟩]).cells (G - (c+1))).toList):=⟨_,rfl⟩
 have hrz:∀ ty,(Builtin.append_ #[36,3] ty #[.slice (some ⟨g,0,none⟩) i c,.int .i64 ((c:Int)+1 - (i:Int))]).run Tryz.prog w = .ok (.slice (some ⟨w.heap.size,0,none⟩) (c+1) G) (w.drew.alloc (.cells cs1.toArray 55)):=fun ty=>by
  have h1:=Lib.run_append_grow_zeros (P:=Tryz.prog) w 36 3 ty 55 i0 _ .i64 .i64 Tryz.underlying36 Tryz.underlying3 hi0 hz0 (some ⟨g,0,none⟩) i c (flE.cells (l.take i)) hold (c+1 - i) (by omega) (by omega) (by omega) (by omega) (by rw [hz2]; omega) (by rw [hz2]; exact growslice_fits (by omega) (by omega))
  rw [show i+(c+1 - i)=c+1 by omega,show ((c+1 - i:Nat):Int)=(c:Int)+1 - (i:Int) by omega,← hG] at h1
  rw [h1,hcs1]
  congr 3
  apply Array.ext'
  simp
 have hl1:cs1.length=G*3:=by
  rw [hcs1,List.length_append,List.length_append,hTL,Array.length_toList,Array.length_toList,size_zeroCells,size_zeroCells]
  show i*3+((c+1 - i)*3+(G - (c+1))*3)=G*3
  omega
 have ht1:cs1.take (i*3)=flE.cells (l.take i):=by rw [hcs1,List.take_append_of_le_length (by omega),List.take_of_length_le (by omega)]
 obtain⟨W1,hW1⟩:∃ W1,W1=w.drew.alloc (.cells cs1.toArray 55):=⟨_,rfl⟩
 have hB1:Below w.heap.size w W1:=hW1 ▸ ((Below.refl _ w).drew.alloc (Nat.le_refl _) _)
 have hN1:Blk W1 w.heap.size 55 cs1:=by rw [hW1]; exact heap_alloc_new w.drew _
 rw [← hW1] at hrz
 have hglt:=hb.lt
 have hvlt:=hx.lt
 have HI:=Lib.hid hi0
 have HZ:=Lib.hid (And.intro hz0 (And.intro hz1 hz2))
 have HB:=Lib.hid (hb.keep hB1)
 have HX:=Lib.hid (hx.keep hB1)
 have HF:=Lib.hid (And.intro hcl (And.intro htk (And.intro hbg (And.intro hcm hln))))
 have HN1:=Lib.hid hN1
 have HB1:=Lib.hid hB1
 have HL1:=Lib.hid (And.intro hl1 (And.intro ht1 hTL))
 have hcp:=fun ty=>run_copy_blk (P:=Tryz.prog) (w:=W1) 36 36 ty 55 i0 3 Tryz.underlying36 HI.out HZ.out.2.1 (g:=w.heap.size) (off:=i*3) (dLen:=c+1 - i) (dCap:=G - i) HN1.out ⟨bv,0,none⟩ 1 1 1 (flE.enc x) (by show 1=min 1 (c+1 - i); omega) (flE.len x) (HX.out.reads fun j u hj=>by rw [Nat.zero_add]; exact hj) (flE.one x) (by rw [hl1,flE.len]; show i*3+3≤G*3; omega)
 have hb3:=Lib.hid (hN1.row (splice cs1 (i*3) (flE.enc x)))
 generalize hW3:W1.setRow w.heap.size (splice cs1 (i*3) (flE.enc x)).toArray=w3 at hcp hb3
 clear hW3
 have hl3:Hid ((splice cs1 (i*3) (flE.enc x)).length=G*3):=Lib.hid (by rw [length_splice _ _ _ (by rw [hl1,flE.len]; show i*3+3≤G*3; omega),hl1])
 have HB3:Hid (Blk w3 g 55 cs):=Lib.hid (HB.out.kept hb3.out.2 (by simp; omega))
 have hNL:Hid ((flE.cells (l.drop i)).length=(c - i)*3):=Lib.hid (by rw [len_cells,List.length_drop,hln])
 have hNR:Hid (Reads w3 ⟨g,i*3,none⟩ (flE.cells (l.drop i))):=Lib.hid (HB3.out.reads fun j u hj=>by
  rw [← cells_drop,← HF.out.2.1,List.drop_take,List.getElem?_take] at hj
  split at hj
  ·rw [List.getElem?_drop] at hj; exact hj
  ·cases hj)
 have hFT:Hid ((i+1)*3+(flE.cells (l.drop i)).length≤(splice cs1 (i*3) (flE.enc x)).length):=Lib.hid (by rw [hNL.out,hl3.out]; omega)
 unfold maxLen at hGm hcm
 clear h hb hcl htk hln hx hi0 hz0 hz1 hz2 hTL hTR hold hG hcs1 hl1 ht1 hW1 hB1 hN1
 have hii:(i:Int)<(c:Int):=by omega
 have hin:((i:Int)==(c:Int))=false:=beq_eq_false_iff_ne.2 (by omega)
 have hic:¬ c=i:=by omega
 have hicc:i≤c:=by omega
 have hGi:¬ G=i:=by omega
 have hGi1:¬ G=i+1:=by omega
 have hw1:IntKind.i64.wrap ((i:Int)+1)=(i:Int)+1:=by rw [IntKind.wrap_i64]; omega
 have htn:((i:Int)+1).toNat=i+1:=by omega
 have hk0:(0:Int)≤(i:Int)+1:=by omega
 have hic4:(i:Int)+1≤(c:Int)+1:=by omega
 have hic5:(i:Int)≤(c:Int)+1:=by omega
 go_enter Tryz.func146,Tryz.ntmps146
 go_wp2_with (at_builtin; refine Lib.wpList_append_run _ rfl _ _ _ _ rfl _ _ rfl rfl _ _ (hrz _) ?_)
 go_still_tail 8,(by kernel_rfl)
 change wpList _ _ _ _ _ w3.drew
 clear hw1 htn hcp hrz
 refine wpList_copy_blk rfl _ _ 36 36 rfl 55 i0 3 Tryz.underlying36 HI.out HZ.out.2.1 w.heap.size ((i+1)*3) (c - i) (G - (i+1)) _ hb3.out.1 rfl ⟨g,i*3,none⟩ (c - i) (c - i) (c - i) (flE.cells (l.drop i)) rfl (by show c - i=min (c - i) (c - i); omega) hNL.out hNR.out (flE.cells_one _) hFT.out ?_
 intro w4 hb4 hg4
 go_wp2_with fail
 go_ret
 refine⟨_,rfl,blk_own hb4.out ?_ hbase (by omega) (by unfold maxLen; omega) ?_,?_⟩
 ·rw [length_splice _ _ _ hFT.out,hl3.out]
 ·have e3:(flE.enc x).length=3:=flE.len x
  rw [splice_take _ _ _ (by rw [hl3.out]; omega) _ (by rw [hNL.out]; omega),splice_take _ _ _ (by rw [HL1.out.1]; omega) _ (by rw [e3]; omega),HL1.out.2.1,cells_ins]
 ·refine ((But.ofBelow HB1.out).trans ((But.ofGrown hb3.out.2).mono (T:=fun i=>base≤i) (fun i _ e=>by cases e; exact hbase))).trans (But.mono (S:=fun i=>some i=some w.heap.size) ⟨hg4.out.os,hg4.out.tape,hg4.out.output,hg4.out.size,fun i hi hs=>hg4.out.block i hi hs⟩ (fun i _ e=>by cases e; exact hbase))
theorem insert_any (a:Option Addr) (n c base:Nat) (l:List Fl) (i:Nat) (x:Fl) (bv:Nat) (w:World) (h:w.ownsRow base 55 3 (.slice a n c) n (flE.cells l)) (hi:i≤n) (hn:n≤1000000) (hb:base≤w.heap.size) (hx:Blk w bv 55 (flE.enc x)) (hne:∀ p,a=some p→p.block≠bv) :
 Calls Tryz.prog 146 #[.slice a n c,.int .i64 (i:Int),.slice (some ⟨bv,0,none⟩) 1 1] w fun e w' =>
  ∃ v,e = .returned v∧w'.ownsRow base 55 3 v (n+1) (flE.cells (insAt l i x))∧But (fun i=>base≤i) w w':=by
 by_cases hin:i=n
 ·subst hin
  have hln:l.length=i:=by
   have h1:=h.1
   rw [len_cells] at h1; omega
  have e:insAt l i x=l++[x]:=by unfold insAt; rw [List.take_of_length_le (by omega),List.drop_of_length_le (by omega)]
  rw [e]
  exact insert_end a i c base l x bv w h hn hb hx
 ·obtain⟨g,rfl,-,-⟩:=own_some h (by omega)
  obtain⟨cs,_,_,_,_,hnc,_,_⟩:=own_blk h
  by_cases hc:c=n
  ·exact insert_grow g n c base l i x bv w h (by omega) hn hx hb hc
  ·exact insert_room g n c base l i x bv w h (by omega) hn hx (fun e=>hne _ rfl e.symm) (by omega)
end Go.Proofs.YtlpgbmaoenncjaaGreatDoor

namespace Go.Proofs.YtlpgbmaoenncjaaGreatDoor
open Go.RowKit Go.BigFrame
set_option linter.unusedVariables false
set_option maxRecDepth 100000
theorem fl_store1 {w:World}{base g n c:Nat}{L:List Fl}{k:Nat}(h:w.ownsRow base 55 3 (.slice (some ⟨g,0,none⟩) n c) n (flE.cells L)) (hk:k<L.length) (t:ByteArray) :
 (w.setCell ⟨g,k*3+2,none⟩ (.string t)).ownsRow base 55 3 (.slice (some ⟨g,0,none⟩) n c) n (flE.cells (L.set k ⟨L[k].nm,L[k].sy,t⟩))∧w.grownBy (w.setCell ⟨g,k*3+2,none⟩ (.string t)) (some g):=by
 obtain⟨h1,g1⟩:=h.stored (k*3+2) (.string t)
 refine⟨?_,g1⟩
 have e1:(flE.cells L).set (k*3+2) (.string t)=flE.cells (L.set k ⟨L[k].nm,L[k].sy,t⟩):=Enc.cells_set flE (j:=2) (by decide) L k hk rfl
 rw [e1] at h1
 exact h1
theorem wrote_at {l:List Fl}(hr:Rising l) {k:Nat}(hk:k<l.length) {nm more:ByteArray}(hnm:l[k].nm=nm) (hf:fileOf l nm=l[k]):wrote l nm more=l.set k ⟨nm,l[k].sy,l[k].ta++more⟩:=by
 unfold wrote
 rw [hf,withF_set hr hk hnm.symm]
theorem wrote_new {l:List Fl}(hr:Rising l) {nm more:ByteArray}(ha:atL l nm<0) {k:Nat}(hk:k≤l.length) (h1:∀ j (h:j<l.length),k≤j→ltN nm l[j].nm=true) (h2:∀ (h:0<k),ltN nm (l[k - 1]'(by omega)).nm=false) :
 wrote l nm more=insAt l k ⟨nm,⟨#[]⟩,(⟨#[]⟩:ByteArray)++more⟩:=by
 obtain⟨_,hn,hw⟩:=atL_no ha
 unfold wrote withF
 rw [hn,hw]
 refine insF_at hk (fun j hj hjk=>?_) (fun h=>h1 k h (Nat.le_refl _))
 have h3:=h2 (by omega)
 by_cases hj1:j=k - 1
 ·subst hj1; exact h3
 ·cases hq:ltN nm l[j].nm with
  | false=>rfl
  | true =>
    have h4:=List.pairwise_iff_getElem.1 hr j (k - 1) hj (by omega) (by omega)
    have h5:=ltN_trans hq h4
    rw [h3] at h5
    cases h5
set_option maxHeartbeats 2000000 in
theorem put_old (l:List Fl) (k Bat Bn Bm:Nat) (nm more:ByteArray) (S:Nat→Prop) (w:World) (hk:k<l.length) (h8:l.length≤1000000) (hs:l[k].ta.size+more.size≤maxLen)
 (h1:One w Bat 3 (.int .i64 (k:Int))) (h3:One w Bm 9 (.string more)) :
 FsFn 145 #[.pointer (some ⟨Bat,0,none⟩),.pointer (some ⟨Bn,0,none⟩),.pointer (some ⟨Bm,0,none⟩)] l (l.set k ⟨l[k].nm,l[k].sy,l[k].ta++more⟩) S w:=by
 intro W v base hb h0 hbs hrow
 show Calls Tryz.prog 145 #[v,.pointer (some ⟨Bat,0,none⟩),.pointer (some ⟨Bn,0,none⟩),.pointer (some ⟨Bm,0,none⟩)] W _
 obtain⟨a,c,rfl⟩:=own_shape hrow
 obtain⟨g,rfl,hg1,hg2⟩:=own_some hrow (by omega)
 obtain⟨c0,c1,c2,hz⟩:=own_file hrow hk
 have z2:=hz (k*3+2)
 have hcB:W.cell? ⟨Bat,0,none⟩=some (.int .i64 (k:Int)):=(h1.below hb).cell
 have hcM:W.cell? ⟨Bm,0,none⟩=some (.string more):=(h3.below hb).cell
 have HST:=Lib.hid (fun t=>fl_store1 hrow hk t)
 obtain⟨n,hn⟩:∃ n,n=l.length:=⟨_,rfl⟩
 have hki:(k:Int)<(n:Int):=by omega
 have HN:=Lib.hid hn
 have hn8:n≤1000000:=by omega
 rw [← hn] at HST ⊢
 clear hrow hz hn h1 h3
 have hlen:Hid ((l.set k ⟨l[k].nm,l[k].sy,l[k].ta++more⟩).length=n):=Lib.hid (by rw [List.length_set]; exact HN.out.symm)
 generalize hl':l.set k ⟨l[k].nm,l[k].sy,l[k].ta++more⟩=L at hlen ⊢
 have HL':=Lib.hid hl'
 clear hl'
 generalize l[k]=o at *
 obtain⟨o0,o1,o2⟩:=o
 dsimp only at *
 unfold maxLen at hs
 have hki0:¬ ((k:Int)<0):=by omega
 go_enter Tryz.func145,Tryz.ntmps145
 go_wp2_with fail
 go_big_region
 go_wp2_with fail
 go_ret
 obtain⟨r1,r2⟩:=HST.out (o2++more)
 refine⟨_,rfl,?_,?_⟩
 ·rw [hlen.out,← HL'.out]
  exact r1
 ·exact (But.ofGrown r2).mono (fun i hi e=>.inr (by cases e; exact hg1)) |>.drewN 1
theorem One.set {w:World}{b:Nat}{t:TypeId}{v:Value}(h:One w b t v) (u:Value):One (w.setCell ⟨b,0,none⟩ u) b t u:=one_setCell h
theorem insAt_length (l:List Fl) {i:Nat}(x:Fl) (h:i≤l.length):(insAt l i x).length=l.length+1:=by
 unfold insAt
 rw [List.length_append,List.length_cons,List.length_take,List.length_drop]; omega
theorem insAt_at (l:List Fl) {i:Nat}(x:Fl) (h:i≤l.length):(insAt l i x)[i]'(by rw [insAt_length l x h]; omega)=x:=by
 unfold insAt
 rw [List.getElem_append_right (by rw [List.length_take]; omega)]
 simp [List.length_take,Nat.min_eq_left h]
theorem insAt_set (l:List Fl) {i:Nat}(x y:Fl) (h:i≤l.length):(insAt l i x).set i y=insAt l i y:=by
 unfold insAt
 have hl:(l.take i).length=i:=by rw [List.length_take]; omega
 rw [List.set_append_right _ _ (by omega),hl,Nat.sub_self,List.set_cons_zero]
set_option maxHeartbeats 4000000 in
theorem put_new (l:List Fl) (at_:Int) (Bat Bn Bm:Nat) (nm more:ByteArray) (w:World) (hr:Rising l) (ha:atL l nm=at_) (hat:at_<0) (h8:l.length≤100000) (hs:more.size≤maxLen)
 (h1:One w Bat 3 (.int .i64 at_)) (h2:One w Bn 9 (.string nm)) (h3:One w Bm 9 (.string more)) (hn1:Bat≠Bn) (hn2:Bat≠Bm) :
 FsFn 145 #[.pointer (some ⟨Bat,0,none⟩),.pointer (some ⟨Bn,0,none⟩),.pointer (some ⟨Bm,0,none⟩)] l (wrote l nm more) (fun i=>i=Bat) w:=by
 intro W v base hb h0 hbs hrow
 show Calls Tryz.prog 145 #[v,.pointer (some ⟨Bat,0,none⟩),.pointer (some ⟨Bn,0,none⟩),.pointer (some ⟨Bm,0,none⟩)] W _
 obtain⟨a,c,rfl⟩:=own_shape hrow
 have HA:=Lib.hid (h1.below hb)
 have HNM:=Lib.hid (h2.below hb)
 have HMO:=Lib.hid (h3.below hb)
 have hBat:Bat<base:=by have:=h1.lt; omega
 have hBm:Bm<base:=by have:=h3.lt; omega
 have hw:=Lib.hid (fun (k:Nat) (hk:k≤l.length) (q1:∀ j (h:j<l.length),k≤j→ltN nm l[j].nm=true) (q2:∀ (h:0<k),ltN nm (l[k - 1]'(by omega)).nm=false)=>wrote_new (more:=more) hr (by rw [ha]; exact hat) hk q1 q2)
 have HNE:=Lib.hid (atL_no (by rw [ha]; exact hat)).1
 obtain⟨n,hn⟩:∃ n,n=l.length:=⟨_,rfl⟩
 have HN:=Lib.hid hn
 rw [← hn] at hrow h8
 have HR:=Lib.hid hrow
 have HBS:=Lib.hid hbs
 rw [← hn]
 obtain⟨WR,hWR⟩:∃ WR,WR=wrote l nm more:=⟨_,rfl⟩
 rw [← hWR] at hw ⊢
 unfold maxLen at hs
 have a0:=HA.out.cell
 have a1:=HA.out.free
 have hne1:Bn≠Bat:=fun e=>hn1 e.symm
 have hne2:Bm≠Bat:=fun e=>hn2 e.symm
 clear hn h1 h2 h3 hb hrow hbs ha h0 hr hWR
 go_enter Tryz.func145,Tryz.ntmps145
 go_wp2_with fail
 have HA1:=Lib.hid (HA.out.set (.int .i64 (n:Int)))
 have HG1:=Lib.hid (grown_setCell W Bat 0 (.int .i64 (n:Int)))
 generalize W.setCell ⟨Bat,0,none⟩ (.int .i64 (n:Int))=W1 at HA1 HG1 ⊢
 clear a0 a1
 go_loopg [22] n (fun gk v22 wr=>∃ k:Nat,k≤n∧gk=k∧Hid (One wr Bat 3 (.int .i64 (k:Int)))∧Hid (W.grownBy wr (some Bat))∧Hid (∀ j (h:j<l.length),k≤j→ltN nm l[j].nm=true))
 case atStart=>exact⟨n,Nat.le_refl _,rfl,HA1,HG1,Lib.hid (fun j h hj=>by have:=HN.out; omega)⟩
 case round =>
  obtain⟨k,hk,hgk,hA,hG,hall⟩:=hrel
  have hgk:=hgk.symm
  subst hgk
  clear HA1 HG1
  have a0:=hA.out.cell
  have a1:=hA.out.free
  have n0:=(HNM.out.grown hG.out (by simpa using hne1)).cell
  have HRr:=Lib.hid (HR.out.kept hG.out (.inr fun e=>by have:=(HR.out.lt _ e).1; omega))
  rcases k with _ | j
  ·have hd0:decide ((0:Int)<(0:Int))=false:=by decide
   go_wp2_with fail
   go_quiet (fail)
   go_wp2_with fail
   have hsz5:base≤wr.heap.size:=by have h1:=hG.out.size; have h2:=HBS.out; omega
   have hi5:=insert_any a n c base l 0 ⟨nm,⟨#[]⟩,⟨#[]⟩⟩ wr.heap.size ((wr.drewN nq).alloc (.cells #[.string nm,.string ⟨#[]⟩,.string ⟨#[]⟩] 55)) (World.ownsRow.alloc (w:=wr.drewN nq) HRr.out _) hk (by omega) (by simp; exact Nat.le_succ_of_le hsz5) (heap_alloc_new (wr.drewN nq) _) (fun p hp e=>by have h1:=(HRr.out.lt p.block (by rw [hp]; rfl)).2; omega)
   have hA5:=Lib.hid (One.alloc (One.drewN hA.out nq) (.cells #[.string nm,.string ⟨#[]⟩,.string ⟨#[]⟩] 55))
   have hM5:=Lib.hid (One.alloc (One.drewN (HMO.out.grown hG.out (by simpa using hne2)) nq) (.cells #[.string nm,.string ⟨#[]⟩,.string ⟨#[]⟩] 55))
   have hB5:Hid (But (fun i=>i=Bat∨base≤i) W ((wr.drewN nq).alloc (.cells #[.string nm,.string ⟨#[]⟩,.string ⟨#[]⟩] 55))):=Lib.hid (((But.ofGrown hG.out).drewN nq).mono (fun i _ e=>.inl (by cases e; rfl)) |>.trans (But.ofBelow ((Below.refl _ _).alloc (Nat.le_refl _) _)))
   refine hi5.mono ?_
   clear hi5
   rintro e w5 ⟨v5,rfl,ho5,hb5⟩
   obtain⟨L,hL⟩:∃ L,L=insAt l 0 ⟨nm,⟨#[]⟩,⟨#[]⟩⟩:=⟨_,rfl⟩
   have hkl:0≤l.length:=by have:=HN.out; omega
   have hLn:L.length=n+1:=by rw [hL,insAt_length l _ hkl,HN.out]
   rw [← hL,← hLn] at ho5
   obtain⟨a5,c5,rfl⟩:=own_shape ho5
   obtain⟨g5,rfl,hg1,hg2⟩:=own_some ho5 (by omega)
   have hKL:0<L.length:=by rw [hLn]; omega
   have hLK:L[0]=⟨nm,⟨#[]⟩,⟨#[]⟩⟩:=by subst hL; exact insAt_at l _ hkl
   obtain⟨c0,c1,c2,hz⟩:=own_file ho5 hKL
   rw [hLK] at c0 c1 c2
   have z2:=hz (0*3+2)
   have HST:=Lib.hid (fl_store1 ho5 hKL more)
   have a5':=(hb5.one hA5.out (by omega)).cell
   have m5:=(hb5.one hM5.out (by omega)).cell
   have HB6:=Lib.hid (hB5.out.trans (hb5.mono (T:=fun i=>i=Bat∨base≤i) (fun i _ e=>.inr e)))
   have HLK:=Lib.hid hLK
   have HL:=Lib.hid hL
   have HLN:=Lib.hid hLn
   have hw5:=hw.out 0 hkl (fun j h _=>hall.out j h (Nat.zero_le _)) (fun h=>absurd h (by decide))
   have HW5:=Lib.hid hw5
   obtain⟨n5,hn5⟩:∃ n5,n5=L.length:=⟨_,rfl⟩
   rw [← hn5] at HST ⊢
   have hki5:(0:Int)<(n5:Int):=by have:=HLN.out; omega
   have hn58:n5≤1000000:=by have:=HLN.out; omega
   have HN5:=Lib.hid hn5
   clear hw5 hL hLn hLK hz ho5 hb5 hn5 hA5 hM5 hB5 hw hall
   dsimp only at c0 c1 c2
   go_wp2_with fail
   go_big_region
   go_wp2_with fail
   go_ret
   obtain⟨r1,r2⟩:=HST.out
   refine⟨_,rfl,?_,?_⟩
   ·have e1:WR=L.set 0 ⟨nm,⟨#[]⟩,more⟩:=by
     rw [HW5.out,HL.out,insAt_set l _ _ (by have:=HN.out; omega)]
     congr 2
     all_goals (apply ba_ext; simp)
    have e2:WR.length=n5:=by rw [e1,List.length_set,HN5.out]
    rw [e2,e1]
    rw [HLK.out] at r1
    exact r1
   ·exact HB6.out.trans ((But.ofGrown r2).mono (fun i _ e=>.inr (by cases e; exact hg1)) |>.drewN 1)
  ·obtain⟨g,rfl,hg1,hg2⟩:=own_some HRr.out (by omega)
   have hjl:j<l.length:=by have:=HN.out; omega
   have HRl:Hid (wr.ownsRow base 55 3 (.slice (some ⟨g,0,none⟩) l.length c) l.length (flE.cells l)):=Lib.hid (by have h1:=HRr.out; rw [HN.out] at h1; exact h1)
   obtain⟨c0,-,-,-⟩:=own_file HRl.out hjl
   have hjj:(0:Int)<((j+1:Nat):Int):=by omega
   have hjn:(j:Int)<(n:Int):=by omega
   cases hq:ltN nm l[j].nm with
   | true =>
     have hq2:Op.bytesLess l[j].nm.toList nm.toList=false:=ltN_asymm hq
     have hq3:=toList_ne (HNE.out l[j] (List.getElem_mem hjl))
     have hall2:Hid (∀ i (h:i<l.length),j≤i→ltN nm l[i].nm=true):=Lib.hid fun i h hi=>by
      by_cases hij:i=j
      ·subst hij; exact hq
      ·exact hall.out i h (by omega)
     clear hq hall
     generalize l[j]=o at *
     obtain⟨o0,o1,o2⟩:=o
     dsimp only at *
     go_wp2_with fail
     go_quiet (fail)
     go_wp2_with fail
     have HA2:=Lib.hid ((One.drewN hA.out nq).set (.int .i64 (j:Int)))
     have HG2:=Lib.hid (grown_trans (grown_drewN hG.out nq) (grown_setCell (wr.drewN nq) Bat 0 (.int .i64 (j:Int))))
     go_roundg j
     case rel=>exact⟨j,by omega,rfl,HA2,HG2,hall2⟩
     case measure=>omega
   | false =>
     have hq2:Op.bytesLess l[j].nm.toList nm.toList=true:=ltN_total (fun e=>HNE.out l[j] (List.getElem_mem hjl) e.symm) hq
     have HQ:=Lib.hid hq
     clear hq
     generalize hoo:l[j]=o at c0 hq2
     have HOO:=Lib.hid hoo
     clear hoo
     obtain⟨o0,o1,o2⟩:=o
     dsimp only at *
     go_wp2_with fail
     go_quiet (fail)
     go_wp2_with fail
     have hsz5:base≤wr.heap.size:=by have h1:=hG.out.size; have h2:=HBS.out; omega
     have hi5:=insert_any (some ⟨g,0,none⟩) n c base l (j+1) ⟨nm,⟨#[]⟩,⟨#[]⟩⟩ wr.heap.size ((wr.drewN nq).alloc (.cells #[.string nm,.string ⟨#[]⟩,.string ⟨#[]⟩] 55)) (World.ownsRow.alloc (w:=wr.drewN nq) HRr.out _) hk (by omega) (by simp; exact Nat.le_succ_of_le hsz5) (heap_alloc_new (wr.drewN nq) _) (fun p hp e=>by have h1:=(HRr.out.lt p.block (by rw [hp]; rfl)).2; omega)
     have hA5:=Lib.hid (One.alloc (One.drewN hA.out nq) (.cells #[.string nm,.string ⟨#[]⟩,.string ⟨#[]⟩] 55))
     have hM5:=Lib.hid (One.alloc (One.drewN (HMO.out.grown hG.out (by simpa using hne2)) nq) (.cells #[.string nm,.string ⟨#[]⟩,.string ⟨#[]⟩] 55))
     have hB5:Hid (But (fun i=>i=Bat∨base≤i) W ((wr.drewN nq).alloc (.cells #[.string nm,.string ⟨#[]⟩,.string ⟨#[]⟩] 55))):=Lib.hid (((But.ofGrown hG.out).drewN nq).mono (fun i _ e=>.inl (by cases e; rfl)) |>.trans (But.ofBelow ((Below.refl _ _).alloc (Nat.le_refl _) _)))
     refine hi5.mono ?_
     clear hi5
     rintro e w5 ⟨v5,rfl,ho5,hb5⟩
     obtain⟨L,hL⟩:∃ L,L=insAt l (j+1) ⟨nm,⟨#[]⟩,⟨#[]⟩⟩:=⟨_,rfl⟩
     have hkl:(j+1)≤l.length:=by have:=HN.out; omega
     have hLn:L.length=n+1:=by rw [hL,insAt_length l _ hkl,HN.out]
     rw [← hL,← hLn] at ho5
     obtain⟨a5,c5,rfl⟩:=own_shape ho5
     obtain⟨g5,rfl,hg1,hg2⟩:=own_some ho5 (by omega)
     have hKL:(j+1)<L.length:=by rw [hLn]; omega
     have hLK:L[(j+1)]=⟨nm,⟨#[]⟩,⟨#[]⟩⟩:=by subst hL; exact insAt_at l _ hkl
     obtain⟨c0,c1,c2,hz⟩:=own_file ho5 hKL
     rw [hLK] at c0 c1 c2
     have z2:=hz ((j+1)*3+2)
     have HST:=Lib.hid (fl_store1 ho5 hKL more)
     have a5':=(hb5.one hA5.out (by omega)).cell
     have m5:=(hb5.one hM5.out (by omega)).cell
     have HB6:=Lib.hid (hB5.out.trans (hb5.mono (T:=fun i=>i=Bat∨base≤i) (fun i _ e=>.inr e)))
     have HLK:=Lib.hid hLK
     have HL:=Lib.hid hL
     have HLN:=Lib.hid hLn
     have hw5:=hw.out (j+1) hkl hall.out (fun h=>by simpa using HQ.out)
     have HW5:=Lib.hid hw5
     obtain⟨n5,hn5⟩:∃ n5,n5=L.length:=⟨_,rfl⟩
     rw [← hn5] at HST ⊢
     have hki5:(((j+1:Nat):Int))<(n5:Int):=by have:=HLN.out; omega
     have hn58:n5≤1000000:=by have:=HLN.out; omega
     have HN5:=Lib.hid hn5
     clear hw5 hL hLn hLK hz ho5 hb5 hn5 hA5 hM5 hB5 hw hall
     dsimp only at c0 c1 c2
     go_wp2_with fail
     go_big_region
     go_wp2_with fail
     go_ret
     obtain⟨r1,r2⟩:=HST.out
     refine⟨_,rfl,?_,?_⟩
     ·have e1:WR=L.set (j+1) ⟨nm,⟨#[]⟩,more⟩:=by
       rw [HW5.out,HL.out,insAt_set l _ _ (by have:=HN.out; omega)]
       congr 2
       all_goals (apply ba_ext; simp)
      have e2:WR.length=n5:=by rw [e1,List.length_set,HN5.out]
      rw [e2,e1]
      rw [HLK.out] at r1
      exact r1
     ·exact HB6.out.trans ((But.ofGrown r2).mono (fun i _ e=>.inr (by cases e; exact hg1)) |>.drewN 1)
end Go.Proofs.YtlpgbmaoenncjaaGreatDoor

namespace Go.Proofs.YtlpgbmaoenncjaaGreatDoor
open Go.RowKit Go.BigFrame
set_option linter.unusedVariables false
set_option maxRecDepth 100000
def threeW (w:World) (d:Dk) (a:Option Addr) (n c:Nat) (nm more:ByteArray):World:=(((w.alloc (.cells #[.int .i64 d.room,.slice a n c,.int .i64 d.left,.bool d.down] 38)).alloc (.cells #[.string nm] 9)).alloc (.cells #[.string more] 9)).alloc (.cells #[.int .i64 0,.slice none 0 0,.int .i64 0,.bool false] 38)
theorem three_size (w:World) (d:Dk) (a:Option Addr) (n c:Nat) (nm more:ByteArray):(threeW w d a n c nm more).heap.size=w.heap.size+4:=by unfold threeW; simp
theorem three_below (w:World) (d:Dk) (a:Option Addr) (n c:Nat) (nm more:ByteArray):Below w.heap.size w (threeW w d a n c nm more):=((((Below.refl _ w).alloc (Nat.le_refl _) _).alloc (by simp) _).alloc (by simp; omega) _).alloc (by simp; omega) _
theorem three_box (w:World) (d:Dk) (a:Option Addr) (n c:Nat) (nm more:ByteArray):DkBox (threeW w d a n c nm more) w.heap.size d a n c:=(((Four.new w 38 _ _ _ _).alloc _).alloc _).alloc _
theorem three_nm (w:World) (d:Dk) (a:Option Addr) (n c:Nat) (nm more:ByteArray):One (threeW w d a n c nm more) (w.heap.size+1) 9 (.string nm):=by
 have h:=One.new (w.alloc (.cells #[.int .i64 d.room,.slice a n c,.int .i64 d.left,.bool d.down] 38)) 9 (.string nm)
 rw [World.size_alloc] at h
 exact (h.alloc _).alloc _
theorem three_more (w:World) (d:Dk) (a:Option Addr) (n c:Nat) (nm more:ByteArray):One (threeW w d a n c nm more) (w.heap.size+2) 9 (.string more):=by
 have h:=One.new ((w.alloc (.cells #[.int .i64 d.room,.slice a n c,.int .i64 d.left,.bool d.down] 38)).alloc (.cells #[.string nm] 9)) 9 (.string more)
 rw [World.size_alloc,World.size_alloc] at h
 exact h.alloc _
theorem three_out (w:World) (d:Dk) (a:Option Addr) (n c:Nat) (nm more:ByteArray):outBox (threeW w d a n c nm more) (w.heap.size+3):=by
 have h:=Four.new (((w.alloc (.cells #[.int .i64 d.room,.slice a n c,.int .i64 d.left,.bool d.down] 38)).alloc (.cells #[.string nm] 9)).alloc (.cells #[.string more] 9)) 38 (.int .i64 0) (.slice none 0 0) (.int .i64 0) (.bool false)
 rw [World.size_alloc,World.size_alloc,World.size_alloc] at h
 exact h
set_option maxHeartbeats 4000000 in
theorem write_not (a:Option Addr) (n c:Nat) (d:Dk) (nm more:ByteArray) (w:World) (h:DkAt w a n c d) (hs:nm.size≤maxLen) (hs2:more.size≤9223372036854775807) (r0:Int) (hr0:r0=readyD d [nm]) (hz:r0≠0) :
 Calls Tryz.prog 102 #[d.val a n c,.string nm,.string more] w (RetDk w (Dk.zero,r0)):=by
 have hmf:∀ fn first cap w,(Instr.makeFunc fn first cap).run Tryz.prog w = .ok (.func fn first cap) w:=fun _ _ _ _=>rfl
 have HA:=Lib.hid (three_below w d a n c nm more)
 have HB:=Lib.hid (three_box w d a n c nm more)
 have HO:=Lib.hid (three_out w d a n c nm more)
 have HNM:=Lib.hid (three_nm w d a n c nm more)
 have HMO:=Lib.hid (three_more w d a n c nm more)
 have HZ:=Lib.hid (three_size w d a n c nm more)
 have hsm:more.size≤9223372036854775807:=hs2
 have hr:=Lib.hid (ready_one a n c d nm w _ h (three_below w d a n c nm more) hs (w.heap.size+4) (by rw [three_size]) r0 (Lib.hid hr0))
 have hnb:=h.nb
 have hcn:=h.cn
 have hne:(r0 != 0)=true:=bne_iff_ne.2 hz
 clear hr0 hz h
 unfold threeW at *
 obtain⟨rm,l,lf,dn⟩:=d
 unfold Dk.val at *
 dsimp only at *
 go_enter Tryz.func102,Tryz.ntmps102
 go_wp2_with fail
 refine hr.out.mono ?_
 rintro e w1 ⟨rfl,hb1⟩
 have HB1:=Lib.hid (below_then HA.out hb1 HA.out.size)
 have hB1:=HB.out.keep hb1
 have o1:=Four.keep HO.out hb1
 have n1:=One.below HNM.out hb1
 have m1:=One.below HMO.out hb1
 have q0:=hB1.c0; have q1:=hB1.c1; have q2:=hB1.c2; have q3:=hB1.c3
 have qn:=n1.cell
 have qm:=m1.cell
 have O1:=Lib.hid o1
 have P1:=Lib.hid hB1
 have N1:=Lib.hid n1
 have M1:=Lib.hid m1
 have hz1:w.heap.size+3<w1.heap.size:=by have h1:=hb1.size; rw [HZ.out] at h1; omega
 clear hB1 o1 hb1 n1 m1
 have o2:=O1.out
 have e0:=o2.c0; have e1:=o2.c1; have e2:=o2.c2; have e3:=o2.c3
 have g0:=o2.free 0; have g1:=o2.free 1; have g2:=o2.free 2; have g3:=o2.free 3
 clear o2 q0 q1 q2 q3
 go_wp2_with fail
 refine bodyPost_ret (v:=.tuple #[.agg #[.int .i64 0,.slice none 0 0,.int .i64 0,.bool false],.int .i64 r0]) ?_ rfl ?_
 ·rw [results_cell_tmp rfl]; go_simp
 ·exact RetDk.zero4 r0 _ HB1.out (by omega)
set_option maxHeartbeats 4000000 in
theorem write_full8 (a:Option Addr) (n c:Nat) (d:Dk) (nm more:ByteArray) (w:World) (h:DkAt w a n c d) (hs:nm.size≤maxLen) (hs2:more.size≤9223372036854775807) (r0:Int) (hr0:r0=readyD d [nm]) (hz:r0=0) (k0:Int) (hk0:k0=atL d.files nm) (sz:Nat) (hszv:sz=szL d.files) (hright:rightD d=true) (h1:k0<0) (h2:8≤d.files.length) :
 Calls Tryz.prog 102 #[d.val a n c,.string nm,.string more] w (RetDk w (Dk.zero,130)):=by
 have hmf:∀ fn first cap w,(Instr.makeFunc fn first cap).run Tryz.prog w = .ok (.func fn first cap) w:=fun _ _ _ _=>rfl
 have HA:=Lib.hid (three_below w d a n c nm more)
 have HB:=Lib.hid (three_box w d a n c nm more)
 have HO:=Lib.hid (three_out w d a n c nm more)
 have HNM:=Lib.hid (three_nm w d a n c nm more)
 have HMO:=Lib.hid (three_more w d a n c nm more)
 have HZ:=Lib.hid (three_size w d a n c nm more)
 have hsm:more.size≤9223372036854775807:=hs2
 have hr:=Lib.hid (ready_one a n c d nm w _ h (three_below w d a n c nm more) hs (w.heap.size+4) (by rw [three_size]) r0 (Lib.hid hr0))
 have hnb:=h.nb
 have hcn:=h.cn
 subst hz
 have hf:=Lib.hid (fun (W:World) (hb:Below w.heap.size w W)=>find_any a n c d.files nm W (h.sl.keep hb) hnb k0 (Lib.hid hk0))
 have hsz:=Lib.hid (fun (W:World) (hb:Below w.heap.size w W)=>size_any a n c d.files W (h.sl.keep hb) hnb h.small sz (Lib.hid hszv))
 obtain⟨⟨hr1,hr2⟩,hn8,-⟩:=rightD_nums hright
 have hn8:n≤8:=by have:=h.len; omega
 have hsz8:(sz:Int)≤1048576:=by have:=rightD_size hright; omega
 have hwz:IntKind.i64.wrap (d.room - (sz:Int))=d.room - (sz:Int):=by rw [IntKind.wrap_i64]; omega
 have b1:decide (k0<0)=true:=decide_eq_true h1
 have h2i:(8:Int)≤(n:Int):=by have:=h.len; omega
 clear h2
 clear hr0 hk0 hszv hright h hcn
 unfold threeW at *
 obtain⟨rm,l,lf,dn⟩:=d
 unfold Dk.val at *
 dsimp only at *
 go_enter Tryz.func102,Tryz.ntmps102
 go_wp2_with fail
 refine hr.out.mono ?_
 rintro e w1 ⟨rfl,hb1⟩
 have HB1:=Lib.hid (below_then HA.out hb1 HA.out.size)
 have hB1:=HB.out.keep hb1
 have o1:=Four.keep HO.out hb1
 have n1:=One.below HNM.out hb1
 have m1:=One.below HMO.out hb1
 have q0:=hB1.c0; have q1:=hB1.c1; have q2:=hB1.c2; have q3:=hB1.c3
 have qn:=n1.cell
 have qm:=m1.cell
 have O1:=Lib.hid o1
 have P1:=Lib.hid hB1
 have N1:=Lib.hid n1
 have M1:=Lib.hid m1
 have hz1:w.heap.size+3<w1.heap.size:=by have h1:=hb1.size; rw [HZ.out] at h1; omega
 clear hB1 o1 hb1 n1 m1
 go_wp2_with fail
 refine (hf.out w1 HB1.out).mono ?_
 rintro e w2 ⟨rfl,hb2⟩
 have hb2':=below_then HB1.out hb2 HB1.out.size
 have HB2:=Lib.hid (hb2'.alloc hb2'.size (.cells #[.int .i64 k0] 3))
 have O2:=Lib.hid ((Four.keep O1.out hb2).alloc (.cells #[.int .i64 k0] 3))
 have P2:=Lib.hid ((Four.keep P1.out hb2).alloc (.cells #[.int .i64 k0] 3))
 have N2:=Lib.hid ((One.below N1.out hb2).alloc (.cells #[.int .i64 k0] 3))
 have M2:=Lib.hid ((One.below M1.out hb2).alloc (.cells #[.int .i64 k0] 3))
 have A2:=Lib.hid (One.new w2 3 (.int .i64 k0))
 have hsz2:w1.heap.size≤w2.heap.size:=hb2.size
 obtain⟨A,hA9⟩:∃ A,A=w2.heap.size:=⟨_,rfl⟩
 have HA9:=Lib.hid hA9
 clear hb2 q0 q1 q2 q3 qn qm hb2' hA9
 go_wp2_with fail
 have p2:=P2.out
 have E0:=p2.c0; have E1:=p2.c1; have E4:=M2.out.cell; have E5:=A2.out.cell
 have hA2w:w2.heap.size=A:=HA9.out.symm
 have HSZ2:Hid (w.heap.size+3<A∧A<(w2.alloc (.cells #[.int .i64 k0] 3)).heap.size):=Lib.hid (by simp; omega)
 clear p2
 generalize hW2:w2.alloc (.cells #[.int .i64 k0] 3)=W2 at *
 rw [hA2w] at *
 clear hW2 hA2w HA9
 have p0:=Bel.cell E0
 have p1:=Bel.cell E1
 have p4:=Bel.cell E4
 have p5:=Bel.cell E5
 have hszc:=Lib.hid (fun (p:Bel W2)=>hsz.out p.val (below_then HB2.out p.bel HB2.out.size))
 clear E0 E1 E4 E5 hsz
 refine wp_region_bel (by kernel_rfl) (by kernel_rfl) ?_
 repeat (go_big_quiet_step (exact bel_of (hszc.out _)))
 refine wpQuiet_nil ?_
 intro W3 hw'
 obtain⟨⟨W8,hW3⟩,he⟩:=hw'
 change W3=W8 at he
 subst he
 clear p0 p1 p4 p5
 have HB3:=Lib.hid (below_then HB2.out hW3 HB2.out.size)
 have o2:=Four.keep O2.out hW3
 have e0:=o2.c0; have e1:=o2.c1; have e2:=o2.c2; have e3:=o2.c3
 have g0:=o2.free 0; have g1:=o2.free 1; have g2:=o2.free 2; have g3:=o2.free 3
 clear o2 hW3
 go_wp2_with fail
 refine bodyPost_ret (v:=.tuple #[.agg #[.int .i64 0,.slice none 0 0,.int .i64 0,.bool false],.int .i64 130]) ?_ rfl ?_
 ·rw [results_cell_tmp rfl]; go_simp
 ·exact RetDk.zero4 130 _ HB3.out (by omega)
set_option maxHeartbeats 4000000 in
theorem write_full (a:Option Addr) (n c:Nat) (d:Dk) (nm more:ByteArray) (w:World) (h:DkAt w a n c d) (hs:nm.size≤maxLen) (hs2:more.size≤9223372036854775807) (r0:Int) (hr0:r0=readyD d [nm]) (hz:r0=0) (k0:Int) (hk0:k0=atL d.files nm) (sz:Nat) (hszv:sz=szL d.files) (hright:rightD d=true) (h1:k0<0) (h2:¬ 8≤d.files.length) (h3:d.room - (sz:Int)<(more.size:Int)) :
 Calls Tryz.prog 102 #[d.val a n c,.string nm,.string more] w (RetDk w (Dk.zero,130)):=by
 have hmf:∀ fn first cap w,(Instr.makeFunc fn first cap).run Tryz.prog w = .ok (.func fn first cap) w:=fun _ _ _ _=>rfl
 have HA:=Lib.hid (three_below w d a n c nm more)
 have HB:=Lib.hid (three_box w d a n c nm more)
 have HO:=Lib.hid (three_out w d a n c nm more)
 have HNM:=Lib.hid (three_nm w d a n c nm more)
 have HMO:=Lib.hid (three_more w d a n c nm more)
 have HZ:=Lib.hid (three_size w d a n c nm more)
 have hsm:more.size≤9223372036854775807:=hs2
 have hr:=Lib.hid (ready_one a n c d nm w _ h (three_below w d a n c nm more) hs (w.heap.size+4) (by rw [three_size]) r0 (Lib.hid hr0))
 have hnb:=h.nb
 have hcn:=h.cn
 subst hz
 have hf:=Lib.hid (fun (W:World) (hb:Below w.heap.size w W)=>find_any a n c d.files nm W (h.sl.keep hb) hnb k0 (Lib.hid hk0))
 have hsz:=Lib.hid (fun (W:World) (hb:Below w.heap.size w W)=>size_any a n c d.files W (h.sl.keep hb) hnb h.small sz (Lib.hid hszv))
 obtain⟨⟨hr1,hr2⟩,hn8,-⟩:=rightD_nums hright
 have hn8:n≤8:=by have:=h.len; omega
 have hsz8:(sz:Int)≤1048576:=by have:=rightD_size hright; omega
 have hwz:IntKind.i64.wrap (d.room - (sz:Int))=d.room - (sz:Int):=by rw [IntKind.wrap_i64]; omega
 have b1:decide (k0<0)=true:=decide_eq_true h1
 have h2i:(n:Int)<(8:Int):=by have:=h.len; omega
 have b2:decide ((8:Int)≤(n:Int))=false:=decide_eq_false (by omega)
 clear h2
 have b3:decide (d.room - (sz:Int)<(more.size:Int))=true:=decide_eq_true h3
 clear hr0 hk0 hszv hright h hcn
 unfold threeW at *
 obtain⟨rm,l,lf,dn⟩:=d
 unfold Dk.val at *
 dsimp only at *
 go_enter Tryz.func102,Tryz.ntmps102
 go_wp2_with fail
 refine hr.out.mono ?_
 rintro e w1 ⟨rfl,hb1⟩
 have HB1:=Lib.hid (below_then HA.out hb1 HA.out.size)
 have hB1:=HB.out.keep hb1
 have o1:=Four.keep HO.out hb1
 have n1:=One.below HNM.out hb1
 have m1:=One.below HMO.out hb1
 have q0:=hB1.c0; have q1:=hB1.c1; have q2:=hB1.c2; have q3:=hB1.c3
 have qn:=n1.cell
 have qm:=m1.cell
 have O1:=Lib.hid o1
 have P1:=Lib.hid hB1
 have N1:=Lib.hid n1
 have M1:=Lib.hid m1
 have hz1:w.heap.size+3<w1.heap.size:=by have h1:=hb1.size; rw [HZ.out] at h1; omega
 clear hB1 o1 hb1 n1 m1
 go_wp2_with fail
 refine (hf.out w1 HB1.out).mono ?_
 rintro e w2 ⟨rfl,hb2⟩
 have hb2':=below_then HB1.out hb2 HB1.out.size
 have HB2:=Lib.hid (hb2'.alloc hb2'.size (.cells #[.int .i64 k0] 3))
 have O2:=Lib.hid ((Four.keep O1.out hb2).alloc (.cells #[.int .i64 k0] 3))
 have P2:=Lib.hid ((Four.keep P1.out hb2).alloc (.cells #[.int .i64 k0] 3))
 have N2:=Lib.hid ((One.below N1.out hb2).alloc (.cells #[.int .i64 k0] 3))
 have M2:=Lib.hid ((One.below M1.out hb2).alloc (.cells #[.int .i64 k0] 3))
 have A2:=Lib.hid (One.new w2 3 (.int .i64 k0))
 have hsz2:w1.heap.size≤w2.heap.size:=hb2.size
 obtain⟨A,hA9⟩:∃ A,A=w2.heap.size:=⟨_,rfl⟩
 have HA9:=Lib.hid hA9
 clear hb2 q0 q1 q2 q3 qn qm hb2' hA9
 go_wp2_with fail
 have p2:=P2.out
 have E0:=p2.c0; have E1:=p2.c1; have E4:=M2.out.cell; have E5:=A2.out.cell
 have hA2w:w2.heap.size=A:=HA9.out.symm
 have HSZ2:Hid (w.heap.size+3<A∧A<(w2.alloc (.cells #[.int .i64 k0] 3)).heap.size):=Lib.hid (by simp; omega)
 clear p2
 generalize hW2:w2.alloc (.cells #[.int .i64 k0] 3)=W2 at *
 rw [hA2w] at *
 clear hW2 hA2w HA9
 have p0:=Bel.cell E0
 have p1:=Bel.cell E1
 have p4:=Bel.cell E4
 have p5:=Bel.cell E5
 have hszc:=Lib.hid (fun (p:Bel W2)=>hsz.out p.val (below_then HB2.out p.bel HB2.out.size))
 clear E0 E1 E4 E5 hsz
 refine wp_region_bel (by kernel_rfl) (by kernel_rfl) ?_
 repeat (go_big_quiet_step (exact bel_of (hszc.out _)))
 refine wpQuiet_nil ?_
 intro W3 hw'
 obtain⟨⟨W8,hW3⟩,he⟩:=hw'
 change W3=W8 at he
 subst he
 clear p0 p1 p4 p5
 have HB3:=Lib.hid (below_then HB2.out hW3 HB2.out.size)
 have o2:=Four.keep O2.out hW3
 have e0:=o2.c0; have e1:=o2.c1; have e2:=o2.c2; have e3:=o2.c3
 have g0:=o2.free 0; have g1:=o2.free 1; have g2:=o2.free 2; have g3:=o2.free 3
 clear o2 hW3
 go_wp2_with fail
 refine bodyPost_ret (v:=.tuple #[.agg #[.int .i64 0,.slice none 0 0,.int .i64 0,.bool false],.int .i64 130]) ?_ rfl ?_
 ·rw [results_cell_tmp rfl]; go_simp
 ·exact RetDk.zero4 130 _ HB3.out (by omega)
set_option maxHeartbeats 4000000 in
theorem write_full2 (a:Option Addr) (n c:Nat) (d:Dk) (nm more:ByteArray) (w:World) (h:DkAt w a n c d) (hs:nm.size≤maxLen) (hs2:more.size≤9223372036854775807) (r0:Int) (hr0:r0=readyD d [nm]) (hz:r0=0) (k0:Int) (hk0:k0=atL d.files nm) (sz:Nat) (hszv:sz=szL d.files) (hright:rightD d=true) (h1:¬ k0<0) (h3:d.room - (sz:Int)<(more.size:Int)) :
 Calls Tryz.prog 102 #[d.val a n c,.string nm,.string more] w (RetDk w (Dk.zero,130)):=by
 have hmf:∀ fn first cap w,(Instr.makeFunc fn first cap).run Tryz.prog w = .ok (.func fn first cap) w:=fun _ _ _ _=>rfl
 have HA:=Lib.hid (three_below w d a n c nm more)
 have HB:=Lib.hid (three_box w d a n c nm more)
 have HO:=Lib.hid (three_out w d a n c nm more)
 have HNM:=Lib.hid (three_nm w d a n c nm more)
 have HMO:=Lib.hid (three_more w d a n c nm more)
 have HZ:=Lib.hid (three_size w d a n c nm more)
 have hsm:more.size≤9223372036854775807:=hs2
 have hr:=Lib.hid (ready_one a n c d nm w _ h (three_below w d a n c nm more) hs (w.heap.size+4) (by rw [three_size]) r0 (Lib.hid hr0))
 have hnb:=h.nb
 have hcn:=h.cn
 subst hz
 have hf:=Lib.hid (fun (W:World) (hb:Below w.heap.size w W)=>find_any a n c d.files nm W (h.sl.keep hb) hnb k0 (Lib.hid hk0))
 have hsz:=Lib.hid (fun (W:World) (hb:Below w.heap.size w W)=>size_any a n c d.files W (h.sl.keep hb) hnb h.small sz (Lib.hid hszv))
 obtain⟨⟨hr1,hr2⟩,hn8,-⟩:=rightD_nums hright
 have hn8:n≤8:=by have:=h.len; omega
 have hsz8:(sz:Int)≤1048576:=by have:=rightD_size hright; omega
 have hwz:IntKind.i64.wrap (d.room - (sz:Int))=d.room - (sz:Int):=by rw [IntKind.wrap_i64]; omega
 have b1:decide (k0<0)=false:=decide_eq_false h1
 have b3:decide (d.room - (sz:Int)<(more.size:Int))=true:=decide_eq_true h3
 clear hr0 hk0 hszv hright h hcn
 unfold threeW at *
 obtain⟨rm,l,lf,dn⟩:=d
 unfold Dk.val at *
 dsimp only at *
 go_enter Tryz.func102,Tryz.ntmps102
 go_wp2_with fail
 refine hr.out.mono ?_
 rintro e w1 ⟨rfl,hb1⟩
 have HB1:=Lib.hid (below_then HA.out hb1 HA.out.size)
 have hB1:=HB.out.keep hb1
 have o1:=Four.keep HO.out hb1
 have n1:=One.below HNM.out hb1
 have m1:=One.below HMO.out hb1
 have q0:=hB1.c0; have q1:=hB1.c1; have q2:=hB1.c2; have q3:=hB1.c3
 have qn:=n1.cell
 have qm:=m1.cell
 have O1:=Lib.hid o1
 have P1:=Lib.hid hB1
 have N1:=Lib.hid n1
 have M1:=Lib.hid m1
 have hz1:w.heap.size+3<w1.heap.size:=by have h1:=hb1.size; rw [HZ.out] at h1; omega
 clear hB1 o1 hb1 n1 m1
 go_wp2_with fail
 refine (hf.out w1 HB1.out).mono ?_
 rintro e w2 ⟨rfl,hb2⟩
 have hb2':=below_then HB1.out hb2 HB1.out.size
 have HB2:=Lib.hid (hb2'.alloc hb2'.size (.cells #[.int .i64 k0] 3))
 have O2:=Lib.hid ((Four.keep O1.out hb2).alloc (.cells #[.int .i64 k0] 3))
 have P2:=Lib.hid ((Four.keep P1.out hb2).alloc (.cells #[.int .i64 k0] 3))
 have N2:=Lib.hid ((One.below N1.out hb2).alloc (.cells #[.int .i64 k0] 3))
 have M2:=Lib.hid ((One.below M1.out hb2).alloc (.cells #[.int .i64 k0] 3))
 have A2:=Lib.hid (One.new w2 3 (.int .i64 k0))
 have hsz2:w1.heap.size≤w2.heap.size:=hb2.size
 obtain⟨A,hA9⟩:∃ A,A=w2.heap.size:=⟨_,rfl⟩
 have HA9:=Lib.hid hA9
 clear hb2 q0 q1 q2 q3 qn qm hb2' hA9
 go_wp2_with fail
 have p2:=P2.out
 have E0:=p2.c0; have E1:=p2.c1; have E4:=M2.out.cell; have E5:=A2.out.cell
 have hA2w:w2.heap.size=A:=HA9.out.symm
 have HSZ2:Hid (w.heap.size+3<A∧A<(w2.alloc (.cells #[.int .i64 k0] 3)).heap.size):=Lib.hid (by simp; omega)
 clear p2
 generalize hW2:w2.alloc (.cells #[.int .i64 k0] 3)=W2 at *
 rw [hA2w] at *
 clear hW2 hA2w HA9
 have p0:=Bel.cell E0
 have p1:=Bel.cell E1
 have p4:=Bel.cell E4
 have p5:=Bel.cell E5
 have hszc:=Lib.hid (fun (p:Bel W2)=>hsz.out p.val (below_then HB2.out p.bel HB2.out.size))
 clear E0 E1 E4 E5 hsz
 refine wp_region_bel (by kernel_rfl) (by kernel_rfl) ?_
 repeat (go_big_quiet_step (exact bel_of (hszc.out _)))
 refine wpQuiet_nil ?_
 intro W3 hw'
 obtain⟨⟨W8,hW3⟩,he⟩:=hw'
 change W3=W8 at he
 subst he
 clear p0 p1 p4 p5
 have HB3:=Lib.hid (below_then HB2.out hW3 HB2.out.size)
 have o2:=Four.keep O2.out hW3
 have e0:=o2.c0; have e1:=o2.c1; have e2:=o2.c2; have e3:=o2.c3
 have g0:=o2.free 0; have g1:=o2.free 1; have g2:=o2.free 2; have g3:=o2.free 3
 clear o2 hW3
 go_wp2_with fail
 refine bodyPost_ret (v:=.tuple #[.agg #[.int .i64 0,.slice none 0 0,.int .i64 0,.bool false],.int .i64 130]) ?_ rfl ?_
 ·rw [results_cell_tmp rfl]; go_simp
 ·exact RetDk.zero4 130 _ HB3.out (by omega)
set_option maxHeartbeats 4000000 in
theorem write_new (a:Option Addr) (n c:Nat) (d:Dk) (nm more:ByteArray) (w:World) (h:DkAt w a n c d) (hs:nm.size≤maxLen) (hs2:more.size≤9223372036854775807) (r0:Int) (hr0:r0=readyD d [nm]) (hz:r0=0) (k0:Int) (hk0:k0=atL d.files nm) (sz:Nat) (hszv:sz=szL d.files) (hright:rightD d=true) (h1:k0<0) (h2:¬ 8≤d.files.length) (h3:(more.size:Int)≤d.room - (sz:Int)) :
 Calls Tryz.prog 102 #[d.val a n c,.string nm,.string more] w (RetDk w (doneD d (wrote d.files nm more) (wrote d.files nm more))):=by
 have hmf:∀ fn first cap w,(Instr.makeFunc fn first cap).run Tryz.prog w = .ok (.func fn first cap) w:=fun _ _ _ _=>rfl
 have HA:=Lib.hid (three_below w d a n c nm more)
 have HB:=Lib.hid (three_box w d a n c nm more)
 have HO:=Lib.hid (three_out w d a n c nm more)
 have HNM:=Lib.hid (three_nm w d a n c nm more)
 have HMO:=Lib.hid (three_more w d a n c nm more)
 have HZ:=Lib.hid (three_size w d a n c nm more)
 have hsm:more.size≤9223372036854775807:=hs2
 have hr:=Lib.hid (ready_one a n c d nm w _ h (three_below w d a n c nm more) hs (w.heap.size+4) (by rw [three_size]) r0 (Lib.hid hr0))
 have hnb:=h.nb
 have hcn:=h.cn
 subst hz
 have hf:=Lib.hid (fun (W:World) (hb:Below w.heap.size w W)=>find_any a n c d.files nm W (h.sl.keep hb) hnb k0 (Lib.hid hk0))
 have hsz:=Lib.hid (fun (W:World) (hb:Below w.heap.size w W)=>size_any a n c d.files W (h.sl.keep hb) hnb h.small sz (Lib.hid hszv))
 obtain⟨⟨hr1,hr2⟩,hn8,-⟩:=rightD_nums hright
 have hn8:n≤8:=by have:=h.len; omega
 have hsz8:(sz:Int)≤1048576:=by have:=rightD_size hright; omega
 have hwz:IntKind.i64.wrap (d.room - (sz:Int))=d.room - (sz:Int):=by rw [IntKind.wrap_i64]; omega
 have b1:decide (k0<0)=true:=decide_eq_true h1
 have h2i:(n:Int)<(8:Int):=by have:=h.len; omega
 have b2:decide ((8:Int)≤(n:Int))=false:=decide_eq_false (by omega)
 have b3:decide (d.room - (sz:Int)<(more.size:Int))=false:=decide_eq_false (by omega)
 have H:=Lib.hid h
 have hln:=h.len
 obtain⟨r,hre⟩:∃ r,r=doneD d (wrote d.files nm more) (wrote d.files nm more):=⟨_,rfl⟩
 have hrr:rightD (doneD d (wrote d.files nm more) (wrote d.files nm more)).1=true:=by
  have h1:=write_right (d:=d) (nm:=nm) (more:=more)
  unfold writeD at h1
  rw [← hr0,if_neg (by simp),if_neg (by rw [← hk0,← hszv]; omega)] at h1
  exact h1
 have hdone:=Lib.hid (fun (W:World) (Bat Bn Bm:Nat) (hb:Below w.heap.size w W) (o1:One W Bat 3 (.int .i64 k0)) (o2:One W Bn 9 (.string nm)) (o3:One W Bm 9 (.string more)) (n1:Bat≠Bn) (n2:Bat≠Bm)=>by
  have hfs:FsFn 145 #[.pointer (some ⟨Bat,0,none⟩),.pointer (some ⟨Bn,0,none⟩),.pointer (some ⟨Bm,0,none⟩)] d.files (wrote d.files nm more) (fun i=>i=Bat) W:=by
   exact put_new d.files k0 Bat Bn Bm nm more W (rightD_fs hright).2 hk0.symm h1 (by omega) hs2 o1 o2 o3 n1 n2
  have:=done_any a n c d 145 145 #[.pointer (some ⟨Bat,0,none⟩),.pointer (some ⟨Bn,0,none⟩),.pointer (some ⟨Bm,0,none⟩)] #[.pointer (some ⟨Bat,0,none⟩),.pointer (some ⟨Bn,0,none⟩),.pointer (some ⟨Bm,0,none⟩)] _ _ (fun i=>i=Bat) W (H.out.keep hb) (by omega) enters_write enters_write hfs hfs (fun i hi=>by rw [hi]; exact o1.lt) hrr
  rw [← hre] at this
  exact this)
 rw [← hre]
 clear hrr hre hln H
 clear hr0 hk0 hszv hright h hcn
 unfold threeW at *
 obtain⟨rm,l,lf,dn⟩:=d
 unfold Dk.val at *
 dsimp only at *
 go_enter Tryz.func102,Tryz.ntmps102
 go_wp2_with fail
 refine hr.out.mono ?_
 rintro e w1 ⟨rfl,hb1⟩
 have HB1:=Lib.hid (below_then HA.out hb1 HA.out.size)
 have hB1:=HB.out.keep hb1
 have o1:=Four.keep HO.out hb1
 have n1:=One.below HNM.out hb1
 have m1:=One.below HMO.out hb1
 have q0:=hB1.c0; have q1:=hB1.c1; have q2:=hB1.c2; have q3:=hB1.c3
 have qn:=n1.cell
 have qm:=m1.cell
 have O1:=Lib.hid o1
 have P1:=Lib.hid hB1
 have N1:=Lib.hid n1
 have M1:=Lib.hid m1
 have hz1:w.heap.size+3<w1.heap.size:=by have h1:=hb1.size; rw [HZ.out] at h1; omega
 clear hB1 o1 hb1 n1 m1
 go_wp2_with fail
 refine (hf.out w1 HB1.out).mono ?_
 rintro e w2 ⟨rfl,hb2⟩
 have hb2':=below_then HB1.out hb2 HB1.out.size
 have HB2:=Lib.hid (hb2'.alloc hb2'.size (.cells #[.int .i64 k0] 3))
 have O2:=Lib.hid ((Four.keep O1.out hb2).alloc (.cells #[.int .i64 k0] 3))
 have P2:=Lib.hid ((Four.keep P1.out hb2).alloc (.cells #[.int .i64 k0] 3))
 have N2:=Lib.hid ((One.below N1.out hb2).alloc (.cells #[.int .i64 k0] 3))
 have M2:=Lib.hid ((One.below M1.out hb2).alloc (.cells #[.int .i64 k0] 3))
 have A2:=Lib.hid (One.new w2 3 (.int .i64 k0))
 have hsz2:w1.heap.size≤w2.heap.size:=hb2.size
 obtain⟨A,hA9⟩:∃ A,A=w2.heap.size:=⟨_,rfl⟩
 have HA9:=Lib.hid hA9
 clear hb2 q0 q1 q2 q3 qn qm hb2' hA9
 go_wp2_with fail
 have p2:=P2.out
 have E0:=p2.c0; have E1:=p2.c1; have E4:=M2.out.cell; have E5:=A2.out.cell
 have hA2w:w2.heap.size=A:=HA9.out.symm
 have HSZ2:Hid (w.heap.size+3<A∧A<(w2.alloc (.cells #[.int .i64 k0] 3)).heap.size):=Lib.hid (by simp; omega)
 clear p2
 generalize hW2:w2.alloc (.cells #[.int .i64 k0] 3)=W2 at *
 rw [hA2w] at *
 clear hW2 hA2w HA9
 have p0:=Bel.cell E0
 have p1:=Bel.cell E1
 have p4:=Bel.cell E4
 have p5:=Bel.cell E5
 have hszc:=Lib.hid (fun (p:Bel W2)=>hsz.out p.val (below_then HB2.out p.bel HB2.out.size))
 clear E0 E1 E4 E5 hsz
 refine wp_region_bel (by kernel_rfl) (by kernel_rfl) ?_
 repeat (go_big_quiet_step (exact bel_of (hszc.out _)))
 refine wpQuiet_nil ?_
 intro W3 hw'
 obtain⟨⟨W8,hW3⟩,he⟩:=hw'
 change W3=W8 at he
 subst he
 clear p0 p1 p4 p5
 have HB3:=Lib.hid (below_then HB2.out hW3 HB2.out.size)
 have O3:=Lib.hid (Four.keep O2.out hW3)
 have p3:=Four.keep P2.out hW3
 have hW3s:W2.heap.size≤W3.heap.size:=hW3.size
 have HC9:=Lib.hid (hdone.out W3 A (w.heap.size+1) (w.heap.size+2) HB3.out (One.below A2.out hW3) (One.below N2.out hW3) (One.below M2.out hW3) (by have:=HSZ2.out; omega) (by have:=HSZ2.out; omega))
 have q0:=p3.c0; have q1:=p3.c1; have q2:=p3.c2; have q3:=p3.c3
 clear p3 hW3 hdone hszc
 go_wp2_with fail
 refine HC9.out.mono ?_
 rintro e w3 ⟨a3,n3,c3,rfl,hbd,hx3⟩
 obtain⟨⟨rm3,l3,lf3,dn3⟩,x3⟩:=r
 have o2:=hbd.1.four O3.out (by have:=HSZ2.out; omega)
 have HBD:=Lib.hid hbd
 have HX3:=Lib.hid hx3
 clear hbd hx3 q0 q1 q2 q3
 have e0:=o2.c0; have e1:=o2.c1; have e2:=o2.c2; have e3:=o2.c3
 have g0:=o2.free 0; have g1:=o2.free 1; have g2:=o2.free 2; have g3:=o2.free 3
 clear o2
 unfold Dk.val
 try dsimp only
 go_wp2_with fail
 refine bodyPost_ret (v:=.tuple #[.agg #[.int .i64 rm3,.slice a3 n3 c3,.int .i64 lf3,.bool dn3],.int .i64 x3]) ?_ rfl ?_
 ·rw [results_cell_tmp rfl]; go_simp
 ·exact ret_out (r:=(⟨rm3,l3,lf3,dn3⟩,x3)) HB3.out (fun i hi=>by have:=HSZ2.out; omega) HBD.out HX3.out (by omega) (by have:=HSZ2.out; omega) _ _ _ _
set_option maxHeartbeats 4000000 in
theorem write_old (a:Option Addr) (n c:Nat) (d:Dk) (nm more:ByteArray) (w:World) (h:DkAt w a n c d) (hs:nm.size≤maxLen) (hs2:more.size≤9223372036854775807) (r0:Int) (hr0:r0=readyD d [nm]) (hz:r0=0) (k0:Int) (hk0:k0=atL d.files nm) (sz:Nat) (hszv:sz=szL d.files) (hright:rightD d=true) (h1:¬ k0<0) (h3:(more.size:Int)≤d.room - (sz:Int)) :
 Calls Tryz.prog 102 #[d.val a n c,.string nm,.string more] w (RetDk w (doneD d (wrote d.files nm more) (wrote d.files nm more))):=by
 have hmf:∀ fn first cap w,(Instr.makeFunc fn first cap).run Tryz.prog w = .ok (.func fn first cap) w:=fun _ _ _ _=>rfl
 have HA:=Lib.hid (three_below w d a n c nm more)
 have HB:=Lib.hid (three_box w d a n c nm more)
 have HO:=Lib.hid (three_out w d a n c nm more)
 have HNM:=Lib.hid (three_nm w d a n c nm more)
 have HMO:=Lib.hid (three_more w d a n c nm more)
 have HZ:=Lib.hid (three_size w d a n c nm more)
 have hsm:more.size≤9223372036854775807:=hs2
 have hr:=Lib.hid (ready_one a n c d nm w _ h (three_below w d a n c nm more) hs (w.heap.size+4) (by rw [three_size]) r0 (Lib.hid hr0))
 have hnb:=h.nb
 have hcn:=h.cn
 subst hz
 have hf:=Lib.hid (fun (W:World) (hb:Below w.heap.size w W)=>find_any a n c d.files nm W (h.sl.keep hb) hnb k0 (Lib.hid hk0))
 have hsz:=Lib.hid (fun (W:World) (hb:Below w.heap.size w W)=>size_any a n c d.files W (h.sl.keep hb) hnb h.small sz (Lib.hid hszv))
 obtain⟨⟨hr1,hr2⟩,hn8,-⟩:=rightD_nums hright
 have hn8:n≤8:=by have:=h.len; omega
 have hsz8:(sz:Int)≤1048576:=by have:=rightD_size hright; omega
 have hwz:IntKind.i64.wrap (d.room - (sz:Int))=d.room - (sz:Int):=by rw [IntKind.wrap_i64]; omega
 have b1:decide (k0<0)=false:=decide_eq_false h1
 have b3:decide (d.room - (sz:Int)<(more.size:Int))=false:=decide_eq_false (by omega)
 have H:=Lib.hid h
 have hln:=h.len
 obtain⟨r,hre⟩:∃ r,r=doneD d (wrote d.files nm more) (wrote d.files nm more):=⟨_,rfl⟩
 have hrr:rightD (doneD d (wrote d.files nm more) (wrote d.files nm more)).1=true:=by
  have h1:=write_right (d:=d) (nm:=nm) (more:=more)
  unfold writeD at h1
  rw [← hr0,if_neg (by simp),if_neg (by rw [← hk0,← hszv]; omega)] at h1
  exact h1
 have hdone:=Lib.hid (fun (W:World) (Bat Bn Bm:Nat) (hb:Below w.heap.size w W) (o1:One W Bat 3 (.int .i64 k0)) (o2:One W Bn 9 (.string nm)) (o3:One W Bm 9 (.string more)) (n1:Bat≠Bn) (n2:Bat≠Bm)=>by
  have hfs:FsFn 145 #[.pointer (some ⟨Bat,0,none⟩),.pointer (some ⟨Bn,0,none⟩),.pointer (some ⟨Bm,0,none⟩)] d.files (wrote d.files nm more) (fun i=>i=Bat) W:=by
   obtain⟨j,hj,hj1,hj2,hj3⟩:=atL_lt (l:=d.files) (nm:=nm) (by rw [← hk0]; omega)
   have hkj:k0=(j:Int):=hk0.trans hj1
   have hsm2:=(right_small hright d.files[j] (List.getElem_mem hj)).2
   rw [wrote_at (rightD_fs hright).2 hj hj2 hj3]
   rw [hkj] at o1
   have:=put_old d.files j Bat Bn Bm nm more (fun i=>i=Bat) W hj (by omega) (by unfold maxLen; omega) o1 o3
   rw [hj2] at this
   exact this
  have:=done_any a n c d 145 145 #[.pointer (some ⟨Bat,0,none⟩),.pointer (some ⟨Bn,0,none⟩),.pointer (some ⟨Bm,0,none⟩)] #[.pointer (some ⟨Bat,0,none⟩),.pointer (some ⟨Bn,0,none⟩),.pointer (some ⟨Bm,0,none⟩)] _ _ (fun i=>i=Bat) W (H.out.keep hb) (by omega) enters_write enters_write hfs hfs (fun i hi=>by rw [hi]; exact o1.lt) hrr
  rw [← hre] at this
  exact this)
 rw [← hre]
 clear hrr hre hln H
 clear hr0 hk0 hszv hright h hcn
 unfold threeW at *
 obtain⟨rm,l,lf,dn⟩:=d
 unfold Dk.val at *
 dsimp only at *
 go_enter Tryz.func102,Tryz.ntmps102
 go_wp2_with fail
 refine hr.out.mono ?_
 rintro e w1 ⟨rfl,hb1⟩
 have HB1:=Lib.hid (below_then HA.out hb1 HA.out.size)
 have hB1:=HB.out.keep hb1
 have o1:=Four.keep HO.out hb1
 have n1:=One.below HNM.out hb1
 have m1:=One.below HMO.out hb1
 have q0:=hB1.c0; have q1:=hB1.c1; have q2:=hB1.c2; have q3:=hB1.c3
 have qn:=n1.cell
 have qm:=m1.cell
 have O1:=Lib.hid o1
 have P1:=Lib.hid hB1
 have N1:=Lib.hid n1
 have M1:=Lib.hid m1
 have hz1:w.heap.size+3<w1.heap.size:=by have h1:=hb1.size; rw [HZ.out] at h1; omega
 clear hB1 o1 hb1 n1 m1
 go_wp2_with fail
 refine (hf.out w1 HB1.out).mono ?_
 rintro e w2 ⟨rfl,hb2⟩
 have hb2':=below_then HB1.out hb2 HB1.out.size
 have HB2:=Lib.hid (hb2'.alloc hb2'.size (.cells #[.int .i64 k0] 3))
 have O2:=Lib.hid ((Four.keep O1.out hb2).alloc (.cells #[.int .i64 k0] 3))
 have P2:=Lib.hid ((Four.keep P1.out hb2).alloc (.cells #[.int .i64 k0] 3))
 have N2:=Lib.hid ((One.below N1.out hb2).alloc (.cells #[.int .i64 k0] 3))
 have M2:=Lib.hid ((One.below M1.out hb2).alloc (.cells #[.int .i64 k0] 3))
 have A2:=Lib.hid (One.new w2 3 (.int .i64 k0))
 have hsz2:w1.heap.size≤w2.heap.size:=hb2.size
 obtain⟨A,hA9⟩:∃ A,A=w2.heap.size:=⟨_,rfl⟩
 have HA9:=Lib.hid hA9
 clear hb2 q0 q1 q2 q3 qn qm hb2' hA9
 go_wp2_with fail
 have p2:=P2.out
 have E0:=p2.c0; have E1:=p2.c1; have E4:=M2.out.cell; have E5:=A2.out.cell
 have hA2w:w2.heap.size=A:=HA9.out.symm
 have HSZ2:Hid (w.heap.size+3<A∧A<(w2.alloc (.cells #[.int .i64 k0] 3)).heap.size):=Lib.hid (by simp; omega)
 clear p2
 generalize hW2:w2.alloc (.cells #[.int .i64 k0] 3)=W2 at *
 rw [hA2w] at *
 clear hW2 hA2w HA9
 have p0:=Bel.cell E0
 have p1:=Bel.cell E1
 have p4:=Bel.cell E4
 have p5:=Bel.cell E5
 have hszc:=Lib.hid (fun (p:Bel W2)=>hsz.out p.val (below_then HB2.out p.bel HB2.out.size))
 clear E0 E1 E4 E5 hsz
 refine wp_region_bel (by kernel_rfl) (by kernel_rfl) ?_
 repeat (go_big_quiet_step (exact bel_of (hszc.out _)))
 refine wpQuiet_nil ?_
 intro W3 hw'
 obtain⟨⟨W8,hW3⟩,he⟩:=hw'
 change W3=W8 at he
 subst he
 clear p0 p1 p4 p5
 have HB3:=Lib.hid (below_then HB2.out hW3 HB2.out.size)
 have O3:=Lib.hid (Four.keep O2.out hW3)
 have p3:=Four.keep P2.out hW3
 have hW3s:W2.heap.size≤W3.heap.size:=hW3.size
 have HC9:=Lib.hid (hdone.out W3 A (w.heap.size+1) (w.heap.size+2) HB3.out (One.below A2.out hW3) (One.below N2.out hW3) (One.below M2.out hW3) (by have:=HSZ2.out; omega) (by have:=HSZ2.out; omega))
 have q0:=p3.c0; have q1:=p3.c1; have q2:=p3.c2; have q3:=p3.c3
 clear p3 hW3 hdone hszc
 go_wp2_with fail
 refine HC9.out.mono ?_
 rintro e w3 ⟨a3,n3,c3,rfl,hbd,hx3⟩
 obtain⟨⟨rm3,l3,lf3,dn3⟩,x3⟩:=r
 have o2:=hbd.1.four O3.out (by have:=HSZ2.out; omega)
 have HBD:=Lib.hid hbd
 have HX3:=Lib.hid hx3
 clear hbd hx3 q0 q1 q2 q3
 have e0:=o2.c0; have e1:=o2.c1; have e2:=o2.c2; have e3:=o2.c3
 have g0:=o2.free 0; have g1:=o2.free 1; have g2:=o2.free 2; have g3:=o2.free 3
 clear o2
 unfold Dk.val
 try dsimp only
 go_wp2_with fail
 refine bodyPost_ret (v:=.tuple #[.agg #[.int .i64 rm3,.slice a3 n3 c3,.int .i64 lf3,.bool dn3],.int .i64 x3]) ?_ rfl ?_
 ·rw [results_cell_tmp rfl]; go_simp
 ·exact ret_out (r:=(⟨rm3,l3,lf3,dn3⟩,x3)) HB3.out (fun i hi=>by have:=HSZ2.out; omega) HBD.out HX3.out (by omega) (by have:=HSZ2.out; omega) _ _ _ _
theorem write_any (a:Option Addr) (n c:Nat) (d:Dk) (nm more:ByteArray) (w:World) (h:DkAt w a n c d) (hs:nm.size≤maxLen) (hs2:more.size≤9223372036854775807) :
 Calls Tryz.prog 102 #[d.val a n c,.string nm,.string more] w (RetDk w (writeD d nm more)):=by
 unfold writeD
 by_cases hz:readyD d [nm]=0
 ·rw [if_neg (by simpa using hz)]
  have hright:=(ready_parts hz).1
  by_cases h1:atL d.files nm<0
  ·by_cases h2:8≤d.files.length
   ·rw [if_pos (.inl ⟨h1,h2⟩)]
    exact write_full8 a n c d nm more w h hs hs2 _ rfl hz _ rfl _ rfl hright h1 h2
   ·by_cases h3:d.room - (szL d.files:Int)<(more.size:Int)
    ·rw [if_pos (.inr h3)]
     exact write_full a n c d nm more w h hs hs2 _ rfl hz _ rfl _ rfl hright h1 h2 h3
    ·rw [if_neg (by omega)]
     exact write_new a n c d nm more w h hs hs2 _ rfl hz _ rfl _ rfl hright h1 h2 (by omega)
  ·by_cases h3:d.room - (szL d.files:Int)<(more.size:Int)
   ·rw [if_pos (.inr h3)]
    exact write_full2 a n c d nm more w h hs hs2 _ rfl hz _ rfl _ rfl hright h1 h3
   ·rw [if_neg (by omega)]
    exact write_old a n c d nm more w h hs hs2 _ rfl hz _ rfl _ rfl hright h1 (by omega)
 ·rw [if_pos hz]
  exact write_not a n c d nm more w h hs hs2 _ rfl hz
end Go.Proofs.YtlpgbmaoenncjaaGreatDoor

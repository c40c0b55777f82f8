/-
  The walks of slices.IndexFunc and slices.DeleteFunc of files, whatever is asked of each: a row of one's own is rewritten in place; the texts within reach.
  The walks of Rename's compare function and of slices.SortFunc of at most nine files, of which all but the last stand in order: the row is rewritten in place; the texts within reach.
  The walks of slices.SortFunc and of Rename's function value; what is not their own is kept; the texts within reach.
  The walk of Rename: what it makes of any disk; new blocks alone are made; the texts within reach.
  The walks of the reference's Like at disks that are one, and of its Crash: new blocks alone are made; the texts within reach.
  The walks of the reference's Without and With: rows of one's own; the texts within reach.
  The reference's Call, first part: its boxes; what it says of a disk, a name that may not be, a disk without power.
  The reference's Call of what may not be: refused. (Written by wip/mkcall.py.)
  The reference's Call of what may be, what = 1, 2, 3, 4. (Written by wip/mkcall2.py.)
  The reference's Call, whole. (Its arms: XDkCb, XDkCc.)
-/
import Derived.Test.YtlpgbmaoenncjaaGreatDoorDkThree
import Derived.Test.YtlpgbmaoenncjaaGreatDoorShelf
import Derived.Laws.StructEq
import Derived.Test.YtlpgbmaoenncjaaGreatDoorGen
import Derived.Deep.RegionWith
import Derived.Deep.DeepCutAuto
import Derived.Deep.CutBlock
namespace Go.Proofs.YtlpgbmaoenncjaaGreatDoor
open Go.RowKit Go.BigFrame
set_option linter.unusedVariables false
set_option maxRecDepth 100000
def idxFrom (p:Fl→Bool):List Fl→Nat→Int
 | [],_=>-1
 | f :: r,i=>if p f=true then (i:Int) else idxFrom p r (i+1)
theorem idxFrom_cases (p:Fl→Bool):∀ (l:List Fl) (i:Nat),(∃ (k:Nat) (h:k<l.length),p l[k]=true∧(∀ j (hj:j<l.length),j<k→p l[j]=false)∧idxFrom p l i=((i+k:Nat):Int))∨((∀ f∈l,p f=false)∧idxFrom p l i = -1)
 | [],i=>.inr ⟨fun f h=>(by cases h),rfl⟩
 | f :: r,i=>by
   cases hf:p f with
   | true=>exact .inl ⟨0,by simp,hf,fun j _ hj=>absurd hj (Nat.not_lt_zero _),by rw [idxFrom,if_pos hf]; rfl⟩
   | false =>
     have hn:¬ p f=true:=by rw [hf]; simp
     rcases idxFrom_cases p r (i+1) with ⟨k,hk,h1,h2,h3⟩ | ⟨h1,h2⟩
     ·refine .inl ⟨k+1,by simpa using hk,by simpa using h1,fun j hj hjk=>?_,by rw [idxFrom,if_neg hn,h3]; congr 1; omega⟩
      cases j with
      | zero=>exact hf
      | succ j=>simpa using h2 j (by simpa using hj) (by omega)
     ·refine .inr ⟨fun g hg=>?_,by rw [idxFrom,if_neg hn,h2]⟩
      rcases List.mem_cons.1 hg with rfl | hg
      ·exact hf
      ·exact h1 g hg
theorem idx_hit {p:Fl→Bool}{l:List Fl}{k:Nat}(hk:k<l.length) (h:p l[k]=true) (hj:∀ j (h:j<l.length),j<k→p l[j]=false):idxFrom p l 0=(k:Int):=by
 rcases idxFrom_cases p l 0 with ⟨i,hi,h1,h2,h3⟩ | ⟨h1,h2⟩
 ·rw [h3]
  have:¬ i<k:=fun e=>by have:=hj i hi e; rw [h1] at this; cases this
  have:¬ k<i:=fun e=>by have:=h2 k hk e; rw [h] at this; cases this
  congr 1; omega
 ·have:=h1 _ (List.getElem_mem hk); rw [h] at this; cases this
theorem idx_miss {p:Fl→Bool}{l:List Fl}(h:∀ j (h:j<l.length),p l[j]=false):idxFrom p l 0 = -1:=by
 rcases idxFrom_cases p l 0 with ⟨i,hi,h1,h2,h3⟩ | ⟨h1,h2⟩
 ·have:=h i hi; rw [h1] at this; cases this
 ·exact h2
def AskFn (g:Nat) (cb:Array Value) (p:Fl→Bool) (l:List Fl) (w:World):Prop:=∀ f∈l,∀ W,Below w.heap.size w W→Calls Tryz.prog g (#[flVal f]++cb) W fun e w'=>e = .returned (.bool (p f))∧Below W.heap.size W w'
set_option maxHeartbeats 1000000 in
theorem filesIdxG (g:Nat) (cb:Array Value) (p:Fl→Bool) (hg:∀ args w,(callFunc g args).run Tryz.prog w = .ok (.enter g args) w) (a:Option Addr) (n c:Nat) (l:List Fl) (w:World) (h:flE.Sl w a n l) (hn:n≤4398046511104) (hp:AskFn g cb p l w) :
 Calls Tryz.prog 144 #[.slice a n c,.func (.func g) #[] cb] w fun e w'=>e = .returned (.int .i64 (idxFrom p l 0))∧Below w.heap.size w w':=by
 have hlen:n=l.length:=h.1
 have HN:=Lib.hid hlen
 have HSL:=Lib.hid h
 have HP:=Lib.hid hp
 obtain⟨r,hr⟩:∃ r,r=idxFrom p l 0:=⟨_,rfl⟩
 rw [← hr]
 have HR:=Lib.hid hr
 clear h hlen hp hr
 go_enter Tryz.func144,Tryz.ntmps144
 go_wp2
 go_loopg [5,8] n (fun gk v5 i wr=>∃ (k:Nat),k≤n∧gk=n - k∧i = .int .i64 (k:Int)∧Hid (Below w.heap.size w wr)∧Hid (∀ j (h:j<l.length),j<k→p l[j]=false))
 case atStart=>exact⟨0,Nat.zero_le _,rfl,rfl,Lib.hid (Below.refl _ _),Lib.hid (fun j h hj=>absurd hj (Nat.not_lt_zero _))⟩
 case round =>
  obtain⟨k,hk,rfl,rfl,hW,hall⟩:=hrel
  by_cases hlt:k<n
  ·have hkd:k<l.length:=by rw [← HN.out]; exact hlt
   obtain⟨-,b,off,rfl,hcells⟩:=fl_at (HSL.out.keep hW.out) (by omega)
   obtain⟨c0,c1,c2⟩:=hcells k hkd
   have hki:(k:Int)<(n:Int):=by omega
   have hc:=Lib.hid (HP.out l[k] (List.getElem_mem hkd) wr hW.out)
   clear hcells
   cases hq:p l[k] with
   | true =>
     have HV:=Lib.hid (idx_hit hkd hq hall.out)
     rw [hq] at hc
     clear hall hq
     unfold flVal at hc
     generalize l[k]=o at *
     obtain⟨o0,o1,o2⟩:=o
     go_wp2_with fail
     refine hc.out.mono ?_
     rintro e w1 ⟨rfl,hb1⟩
     have HB:=Lib.hid (below_then hW.out hb1 hW.out.size)
     clear hb1
     go_wp2_with fail
     go_ret
     exact⟨ret_int (by rw [HR.out,HV.out]),HB.out⟩
   | false =>
     have hall2:Hid (∀ j (h:j<l.length),j<k+1→p l[j]=false):=Lib.hid fun j h hj=>by
      by_cases hjk:j=k
      ·subst hjk; exact hq
      ·exact hall.out j h (by omega)
     rw [hq] at hc
     clear hall hq
     unfold flVal at hc
     generalize l[k]=o at *
     obtain⟨o0,o1,o2⟩:=o
     go_wp2_with fail
     refine hc.out.mono ?_
     rintro e w1 ⟨rfl,hb1⟩
     have HB:=Lib.hid (below_then hW.out hb1 hW.out.size)
     clear hb1
     go_wp2_with fail
     go_roundg (n - (k+1))
     case rel=>exact⟨k+1,by omega,rfl,by go_num,HB,hall2⟩
     case measure=>omega
  ·have HV:=Lib.hid (idx_miss (p:=p) (l:=l) (fun j h=>hall.out j h (by have:=HN.out; omega)))
   have hki:(n:Int)≤(k:Int):=by omega
   clear hall
   go_wp2_with fail
   go_ret
   exact⟨ret_int (by rw [HR.out,HV.out]),hW.out⟩
theorem fl_store3 {w:World}{base g n c:Nat}{L:List Fl}{k:Nat}(h:w.ownsRow base 55 3 (.slice (some ⟨g,0,none⟩) n c) n (flE.cells L)) (hk:k<L.length) (r s t:ByteArray) :
 (((w.setCell ⟨g,k*3,none⟩ (.string r)).setCell ⟨g,k*3+1,none⟩ (.string s)).setCell ⟨g,k*3+2,none⟩ (.string t)).ownsRow base 55 3 (.slice (some ⟨g,0,none⟩) n c) n (flE.cells (L.set k ⟨r,s,t⟩)) ∧
 w.grownBy (((w.setCell ⟨g,k*3,none⟩ (.string r)).setCell ⟨g,k*3+1,none⟩ (.string s)).setCell ⟨g,k*3+2,none⟩ (.string t)) (some g):=by
 obtain⟨h1,g1⟩:=h.stored (k*3) (.string r)
 have e1:(flE.cells L).set (k*3) (.string r)=flE.cells (L.set k ⟨r,L[k].sy,L[k].ta⟩):=Enc.cells_set flE (j:=0) (by decide) L k hk rfl
 rw [e1] at h1
 obtain⟨h2,g2⟩:=fl_store2 h1 (by simpa using hk) s t
 refine⟨?_,grown_trans g1 g2⟩
 rw [List.set_set] at h2
 simpa using h2
structure DelAt (p:Fl→Bool) (l L:List Fl) (i j:Nat):Prop where
 len:L.length=l.length
 ij:i<j
 jl:j≤l.length
 front:L.take i=(l.take j).filter fun f=>!p f
 behind:L.drop j=l.drop j
theorem DelAt.start {p:Fl→Bool}{l:List Fl}{k:Nat}(hk:k<l.length) (h:p l[k]=true) (hj:∀ j (h:j<l.length),j<k→p l[j]=false):DelAt p l l k (k+1):=by
 refine⟨rfl,by omega,hk,?_,rfl⟩
 rw [List.take_succ_eq_append_getElem hk,List.filter_append]
 have h1:(l.take k).filter (fun f=>!p f)=l.take k:=by
  rw [List.filter_eq_self]
  intro f hf
  obtain⟨j,hj2,rfl⟩:=List.getElem_of_mem hf
  rw [List.length_take] at hj2
  rw [List.getElem_take,hj j (by omega) (by omega)]; rfl
 rw [h1]
 simp [h]
theorem DelAt.at_ {p:Fl→Bool}{l L:List Fl}{i j:Nat}(h:DelAt p l L i j) (hj:j<l.length):L[j]'(by rw [h.len]; exact hj)=l[j]:=by
 have h1:=congrArg (fun x=>x[0]?) h.behind
 simp only [List.getElem?_drop,Nat.add_zero] at h1
 rw [List.getElem?_eq_getElem (by rw [h.len]; exact hj),List.getElem?_eq_getElem hj] at h1
 exact Option.some.inj h1
theorem DelAt.drop {p:Fl→Bool}{l L:List Fl}{i j:Nat}(h:DelAt p l L i j) (hj:j<l.length) (hp:p l[j]=true):DelAt p l L i (j+1):=by
 refine⟨h.len,by have:=h.ij; omega,hj,?_,?_⟩
 ·rw [List.take_succ_eq_append_getElem hj,List.filter_append,← h.front]; simp [hp]
 ·have:=congrArg (List.drop 1) h.behind
  rwa [List.drop_drop,List.drop_drop] at this
theorem DelAt.keep {p:Fl→Bool}{l L:List Fl}{i j:Nat}(h:DelAt p l L i j) (hj:j<l.length) (hp:p l[j]=false):DelAt p l (L.set i l[j]) (i+1) (j+1):=by
 have hij:=h.ij
 have hiL:i<L.length:=by rw [h.len]; omega
 refine⟨by rw [List.length_set,h.len],by omega,hj,?_,?_⟩
 ·rw [List.take_succ_eq_append_getElem (by rw [List.length_set]; exact hiL),List.getElem_set_self,List.take_set_of_le (Nat.le_refl _),h.front,List.take_succ_eq_append_getElem hj,List.filter_append]
  simp [hp]
 ·rw [List.drop_set_of_lt (by omega)]
  have:=congrArg (List.drop 1) h.behind
  rwa [List.drop_drop,List.drop_drop] at this
theorem DelAt.done {p:Fl→Bool}{l L:List Fl}{i:Nat}(h:DelAt p l L i l.length):L.take i=l.filter fun f=>!p f:=by rw [h.front,List.take_of_length_le (Nat.le_refl _)]
theorem zero_len (n:Nat):(Builtin.zeroCells (Value.agg #[.string ⟨#[]⟩,.string ⟨#[]⟩,.string ⟨#[]⟩]).cells n).toList.length=n*3:=by rw [Array.length_toList,size_zeroCells]; rfl
theorem zero_one (n:Nat):∀ u∈(Builtin.zeroCells (Value.agg #[.string ⟨#[]⟩,.string ⟨#[]⟩,.string ⟨#[]⟩]).cells n).toList,u.oneCell'=true:=by
 intro u hu
 unfold Builtin.zeroCells at hu
 simp only [Array.toList_map,List.mem_map,Array.mem_toList_iff,Array.mem_range] at hu
 obtain⟨i,_,rfl⟩:=hu
 have e:(Value.agg #[.string ⟨#[]⟩,.string ⟨#[]⟩,.string ⟨#[]⟩]).cells=#[.string ⟨#[]⟩,.string ⟨#[]⟩,.string ⟨#[]⟩]:=by kernel_rfl
 rw [e]
 show ((#[Value.string ⟨#[]⟩,.string ⟨#[]⟩,.string ⟨#[]⟩])[i % 3]!).oneCell'=true
 have:i % 3<3:=Nat.mod_lt _ (by decide)
 match i % 3,this with
 | 0,_=>rfl
 | 1,_=>rfl
 | 2,_=>rfl
set_option maxRecDepth 20000 in
set_option maxHeartbeats 2000000 in
theorem delFunc_any (fg:Nat) (cb:Array Value) (p:Fl→Bool) (hfg:∀ args w,(callFunc fg args).run Tryz.prog w = .ok (.enter fg args) w) (g n c base:Nat) (l:List Fl) (S:Nat→Prop) (w:World) (h:w.ownsRow base 55 3 (.slice (some ⟨g,0,none⟩) n c) n (flE.cells l)) (hn:n≤1000000) (hbase:base≤w.heap.size)
 (hp:∀ f∈l,∀ W,But (fun i=>i=g) w W→Calls Tryz.prog fg (#[flVal f]++cb) W fun e w'=>e = .returned (.bool (p f))∧Below W.heap.size W w') (hex:∃ f∈l,p f=true) :
 Calls Tryz.prog 151 #[.slice (some ⟨g,0,none⟩) n c,.func (.func fg) #[] cb] w fun e w' =>
  ∃ m,e = .returned (.slice (some ⟨g,0,none⟩) m c)∧w'.ownsRow base 55 3 (.slice (some ⟨g,0,none⟩) m c) m (flE.cells (l.filter fun f=>!p f))∧But (fun i=>i=g) w w':=by
 have hln:l.length=n:=by have h1:=h.1; rw [len_cells] at h1; omega
 obtain⟨cs0,hb0,_,_,hbg,hnc,hcm,-⟩:=own_blk h
 have hglt:=hb0.lt
 have hidx:=Lib.hid (filesIdxG fg cb p hfg (some ⟨g,0,none⟩) n c l w (by
  obtain⟨a',c',he,h1,h2,_⟩:=Enc.own_sl (E:=flE) h
  cases he; exact h2) (by omega) (fun f hf W hb=>hp f hf W (But.ofBelow hb)))
 have hcase:∃ (k:Nat) (h:k<l.length),idxFrom p l 0=(k:Int)∧DelAt p l l k (k+1):=by
  rcases idxFrom_cases p l 0 with ⟨k,hk,h1,h2,h3⟩ | ⟨h1,_⟩
  ·exact⟨k,hk,by rw [h3]; congr 1; omega,DelAt.start hk h1 h2⟩
  ·obtain⟨f,hf,hpf⟩:=hex
   rw [h1 f hf] at hpf; cases hpf
 obtain⟨k0,hk0,hi0,hd0⟩:=hcase
 rw [hi0] at hidx
 have HN:=Lib.hid hln
 have HR:=Lib.hid h
 have HP:=Lib.hid hp
 have HD0:=Lib.hid hd0
 have hk0n:k0<n:=by omega
 clear h hb0 hp hex hi0 hd0 hln hk0
 have hne1:((k0:Int) == -1)=false:=beq_eq_false_iff_ne.2 (by omega)
 unfold maxLen at hcm
 go_enter Tryz.func151,Tryz.ntmps151
 go_wp2_with fail
 refine hidx.out.mono ?_
 rintro e w1 ⟨rfl,hb1⟩
 have HB1:Hid (But (fun i=>i=g) w w1):=Lib.hid (But.ofBelow hb1)
 have HR1:=Lib.hid (Enc.row_under HR.out hb1)
 clear hb1 hidx HR
 go_wp2_with fail
 go_loopg [5,6,7] (n - (k0+1)) (fun gk vi vj v7 wr=>∃ (i j:Nat) (L:List Fl),gk=n - j∧j≤n∧i<j∧vi = .int .i64 (i:Int)∧vj = .int .i64 (j:Int)∧Hid (But (fun i=>i=g) w wr)∧Hid (wr.ownsRow base 55 3 (.slice (some ⟨g,0,none⟩) n c) n (flE.cells L))∧Hid (DelAt p l L i j))
 case atStart=>exact⟨k0,k0+1,l,rfl,by omega,by omega,rfl,by go_num,HB1,HR1,HD0⟩
 case round =>
  obtain⟨i,j,L,rfl,hj,hij,rfl,rfl,hB,hM,hD⟩:=hrel
  clear HB1 HR1
  by_cases hlt:j<n
  ·have hjl:j<l.length:=by rw [HN.out]; exact hlt
   have hLl:L.length=n:=by rw [hD.out.len,HN.out]
   have hrow:wr.ownsRow base 55 3 (.slice (some ⟨g,0,none⟩) L.length c) L.length (flE.cells L):=by rw [hLl]; exact hM.out
   obtain⟨c0,c1,c2,hz⟩:=own_file hrow (k:=j) (by rw [hLl]; exact hlt)
   rw [hD.out.at_ hjl] at c0 c1 c2
   have hji:(j:Int)<(n:Int):=by omega
   have hglt2:g<wr.heap.size:=(hM.out.lt g rfl).2
   have hB2:But (fun i=>i=g) w (wr.alloc (.cells #[.string l[j].nm,.string l[j].sy,.string l[j].ta] 55)):=hB.out.trans (But.ofBelow ((Below.refl _ wr).alloc (Nat.le_refl _) _))
   have hc:=Lib.hid (HP.out l[j] (List.getElem_mem hjl) _ hB2)
   have hM2:=hM.out.alloc (.cells #[.string l[j].nm,.string l[j].sy,.string l[j].ta] 55)
   have HB2:=Lib.hid hB2
   have HM2:=Lib.hid hM2
   have n0:=cell_new (w:=wr) (cs:=#[.string l[j].nm,.string l[j].sy,.string l[j].ta]) (T:=55) 0 (v:=.string l[j].nm) rfl
   have n1:=cell_new (w:=wr) (cs:=#[.string l[j].nm,.string l[j].sy,.string l[j].ta]) (T:=55) 1 (v:=.string l[j].sy) rfl
   have n2:=cell_new (w:=wr) (cs:=#[.string l[j].nm,.string l[j].sy,.string l[j].ta]) (T:=55) 2 (v:=.string l[j].ta) rfl
   have HNW:=Lib.hid (And.intro n0 (And.intro n1 n2))
   clear hrow hz hB2 hM2
   unfold flVal at hc
   cases hq:p l[j] with
   | true =>
     have HD2:=Lib.hid (hD.out.drop hjl hq)
     rw [hq] at hc
     clear hq
     generalize l[j]=o at *
     obtain⟨o0,o1,o2⟩:=o
     dsimp only at *
     go_wp2_with fail
     refine hc.out.mono ?_
     rintro e w5 ⟨rfl,hb5⟩
     have HB5:=Lib.hid (HB2.out.trans (But.ofBelow hb5))
     have HM5:=Lib.hid (Enc.row_under HM2.out hb5)
     clear hb5
     go_wp2_with fail
     go_roundg (n - (j+1))
     case rel=>exact⟨i,j+1,L,rfl,by omega,by omega,rfl,by go_num,HB5,HM5,HD2⟩
     case measure=>omega
   | false =>
     have hiL:i<L.length:=by rw [hLl]; omega
     have HD2:=Lib.hid (hD.out.keep hjl hq)
     have hLN:=Lib.hid hLl
     rw [hq] at hc
     clear hq
     generalize l[j]=o at *
     obtain⟨o0,o1,o2⟩:=o
     dsimp only at *
     go_wp2_with fail
     refine hc.out.mono ?_
     rintro e w5 ⟨rfl,hb5⟩
     obtain⟨n0,n1,n2⟩:=HNW.out
     have f0:=cell_keep hb5 n0
     have f1:=cell_keep hb5 n1
     have f2:=cell_keep hb5 n2
     have HB5:=Lib.hid (HB2.out.trans (But.ofBelow hb5))
     have HM5:=Lib.hid (Enc.row_under HM2.out hb5)
     have hrow5:w5.ownsRow base 55 3 (.slice (some ⟨g,0,none⟩) L.length c) L.length (flE.cells L):=by rw [hLN.out]; exact HM5.out
     obtain⟨d0,d1,d2,hz⟩:=own_file hrow5 hiL
     have z0:=hz (i*3)
     have z1:=hz (i*3+1)
     have z2:=hz (i*3+2)
     have hst:=fl_store3 hrow5 hiL o0 o1 o2
     rw [hLN.out] at hst
     have HST:=Lib.hid hst
     have hin:(i:Int)<(n:Int):=by omega
     have hgl5:g<w5.heap.size:=(HM5.out.lt g rfl).2
     obtain⟨N8,hN8⟩:∃ N8,N8=wr.heap.size:=⟨_,rfl⟩
     clear hb5 hrow5 hz hst n0 n1 n2 c0 c1 c2 hLl
     go_wp2_with fail
     rw [← hN8] at f0 f1 f2 ⊢
     clear hN8
     go_roundg (n - (j+1))
     case rel=>exact⟨i+1,j+1,L.set i ⟨o0,o1,o2⟩,rfl,by omega,by omega,by go_num,by go_num,Lib.hid (HB5.out.trans ((But.ofGrown HST.out.2).mono (fun i _ e=>by cases e; rfl))),Lib.hid HST.out.1,HD2⟩
     case measure=>omega
  ·have hji:(n:Int)≤(j:Int):=by omega
   obtain rfl:j=n:=by omega
   obtain⟨cs,hb,hcl,htk,-⟩:=own_blk hM.out
   have hcr:=run_clear_blk (P:=Tryz.prog) (w:=wr) 36 0 55 _ _ Tryz.underlying36 zeroFile (g:=g) (off:=i*3) (n:=j - i) (c:=c - i) hb (by omega) rfl (zero_one _) (by rw [zero_len,hcl]; omega)
   have hb3:=Lib.hid (hb.row (splice cs (i*3) (Builtin.zeroCells (Value.agg #[.string ⟨#[]⟩,.string ⟨#[]⟩,.string ⟨#[]⟩]).cells (j - i)).toList))
   have HCL:=Lib.hid (And.intro hcl htk)
   generalize wr.setRow g (splice cs (i*3) (Builtin.zeroCells (Value.agg #[.string ⟨#[]⟩,.string ⟨#[]⟩,.string ⟨#[]⟩]).cells (j - i)).toList).toArray=w3 at hcr hb3
   have hci:¬ c=i:=by omega
   have hic:i≤c:=by omega
   have hij2:(i:Int)≤(j:Int):=by omega
   have hij3:i≤j:=by omega
   clear hb hcl htk hlt
   go_wp2_with fail
   go_ret
   refine⟨i,rfl,blk_own hb3.out.1 ?_ hbg (by omega) (by unfold maxLen; omega) ?_,?_⟩
   ·rw [length_splice _ _ _ (by rw [zero_len,HCL.out.1]; omega),HCL.out.1]
   ·have hdn:=hD.out
    rw [show j=l.length from HN.out.symm] at hdn
    rw [splice_before _ _ _ _ (Nat.le_refl _) (by rw [HCL.out.1]; omega),← hdn.done,← cells_take,← HCL.out.2,List.take_take,Nat.min_eq_left (by omega)]
   ·exact hB.out.trans ((But.ofGrown hb3.out.2).mono (fun i _ e=>by cases e; rfl))
end Go.Proofs.YtlpgbmaoenncjaaGreatDoor

namespace Go.Proofs.YtlpgbmaoenncjaaGreatDoor
open Go.RowKit Go.BigFrame
set_option linter.unusedVariables false
set_option maxRecDepth 100000
theorem cmp_neg:∀ (a b:List UInt8),(Lib.compareBytes a b<0)↔a<b
 | [],[]=>by simp [Lib.compareBytes]
 | [],_ :: _=>by simp [Lib.compareBytes]
 | _ :: _,[]=>by simp [Lib.compareBytes]
 | a :: x,b :: y=>by
   rw [Lib.compareBytes]
   by_cases h1:a<b
   ·rw [if_pos h1]; simp [List.cons_lt_cons_iff,h1]
   ·rw [if_neg h1]
    by_cases h2:b<a
    ·rw [if_pos h2]
     have h3:¬ a=b:=fun e=>by subst e; exact absurd h2 (UInt8.lt_irrefl _)
     simp [List.cons_lt_cons_iff,h1,h3]
    ·rw [if_neg h2,cmp_neg x y]
     have h3:a=b:=UInt8.le_antisymm (UInt8.not_lt.1 h2) (UInt8.not_lt.1 h1)
     subst h3
     simp
def cmpN (a b:Fl):Int:=Lib.compareBytes a.nm.data.toList b.nm.data.toList
theorem cmpN_neg (a b:Fl):(cmpN a b<0)↔ltN a.nm b.nm=true:=by
 unfold cmpN
 rw [cmp_neg,ltN_is]; simp
theorem cmpN_rng (a b:Fl):-1≤cmpN a b∧cmpN a b≤1:=by
 unfold cmpN
 generalize a.nm.data.toList=x
 generalize b.nm.data.toList=y
 induction x generalizing y with
 | nil=>cases y <;> simp [Lib.compareBytes]
 | cons a x ih =>
   cases y with
   | nil=>simp [Lib.compareBytes]
   | cons b y =>
     rw [Lib.compareBytes]
     split
     ·omega
     ·split
      ·omega
      ·exact ih y
set_option maxHeartbeats 1000000 in
theorem cmp_any (a b:Fl) (w:World):Calls Tryz.prog 154 #[flVal a,flVal b] w fun e w'=>e = .returned (.int .i64 (cmpN a b))∧Below w.heap.size w w':=by
 obtain⟨v,hv⟩:∃ v,v=cmpN a b:=⟨_,rfl⟩
 have hc:=Lib.hid (fun W=>Tryz.strings_Compare a.nm b.nm W)
 have HV:Hid (v=Lib.compareBytes a.nm.data.toList b.nm.data.toList):=Lib.hid hv
 rw [← hv]
 have hb:Below w.heap.size w ((w.alloc (.cells #[.string a.nm,.string a.sy,.string a.ta] 55)).alloc (.cells #[.string b.nm,.string b.sy,.string b.ta] 55)):=((Below.refl _ w).alloc (Nat.le_refl _) _).alloc (by simp) _
 have HB:=Lib.hid hb
 clear hv hb
 obtain⟨a0,a1,a2⟩:=a
 obtain⟨b0,b1,b2⟩:=b
 unfold flVal
 dsimp only at *
 go_enter Tryz.func154,Tryz.ntmps154
 go_wp2_with fail
 refine (hc.out _).mono ?_
 rintro e w1 ⟨rfl,hw⟩
 subst hw
 rw [← HV.out]
 go_wp2_with fail
 go_ret
 exact⟨rfl,HB.out⟩
theorem swap_step {W:List Fl}{x:Fl}{m:Nat}(h:m<W.length):((insAt W (m+1) x).set (m+1) W[m]).set m x=insAt W m x:=by
 have h1:(W.take (m+1)).length=m+1:=by rw [List.length_take]; omega
 have h2:(W.take m).length=m:=by rw [List.length_take]; omega
 unfold insAt
 rw [List.set_append_right _ _ (by omega),h1,Nat.sub_self,List.set_cons_zero,List.set_append_left _ _ (by omega),List.take_succ_eq_append_getElem h,List.set_append_right _ _ (by omega),h2,Nat.sub_self,List.set_cons_zero,List.append_assoc,List.drop_eq_getElem_cons h]
 rfl
theorem insAt_before {W:List Fl}{x:Fl}{i k:Nat}(h:k<i) (hi:i≤W.length):(insAt W i x)[k]'(by rw [insAt_length W x hi]; omega)=W[k]'(by omega):=by
 unfold insAt
 rw [List.getElem_append_left (by rw [List.length_take]; omega),List.getElem_take]
theorem insF_stop {W:List Fl}(hr:Rising W) {x:Fl}{j:Nat}(hj:j≤W.length) (h1:∀ k (h:k<W.length),j≤k→ltN x.nm W[k].nm=true) (h2:∀ (h:0<j),ltN x.nm (W[j - 1]'(by omega)).nm=false):insF x W=insAt W j x:=by
 refine insF_at hj (fun k hk hkj=>?_) (fun h=>h1 j h (Nat.le_refl _))
 have h3:=h2 (by omega)
 by_cases hk1:k=j - 1
 ·subst hk1; exact h3
 ·cases hq:ltN x.nm W[k].nm with
  | false=>rfl
  | true =>
    have h4:=List.pairwise_iff_getElem.1 hr k (j - 1) hk (by omega) (by omega)
    have h5:=ltN_trans hq h4
    rw [h3] at h5
    cases h5
theorem insAt_end (W:List Fl) (x:Fl):insAt W W.length x=W++[x]:=by
 unfold insAt; rw [List.take_of_length_le (Nat.le_refl _),List.drop_of_length_le (Nat.le_refl _)]
theorem srt_cells {w:World}{base g n c m:Nat}{W:List Fl}{x:Fl}(h:w.ownsRow base 55 3 (.slice (some ⟨g,0,none⟩) n c) n (flE.cells (insAt W (m+1) x))) (hm:m<W.length) (hn:W.length+1=n) :
 (w.cell? ⟨g,(m+1)*3,none⟩=some (.string x.nm)∧w.cell? ⟨g,(m+1)*3+1,none⟩=some (.string x.sy)∧w.cell? ⟨g,(m+1)*3+2,none⟩=some (.string x.ta)) ∧
 (w.cell? ⟨g,m*3,none⟩=some (.string W[m].nm)∧w.cell? ⟨g,m*3+1,none⟩=some (.string W[m].sy)∧w.cell? ⟨g,m*3+2,none⟩=some (.string W[m].ta))∧∀ j,w.frozen? ⟨g,j,none⟩=false:=by
 have hLl:(insAt W (m+1) x).length=n:=by rw [insAt_length W x hm]; exact hn
 have hrow:w.ownsRow base 55 3 (.slice (some ⟨g,0,none⟩) (insAt W (m+1) x).length c) (insAt W (m+1) x).length (flE.cells (insAt W (m+1) x)):=by rw [hLl]; exact h
 have hm1:m+1<(insAt W (m+1) x).length:=by rw [hLl]; omega
 obtain⟨c0,c1,c2,hz⟩:=own_file hrow hm1
 rw [insAt_at W x hm] at c0 c1 c2
 obtain⟨d0,d1,d2,-⟩:=own_file hrow (k:=m) (by omega)
 rw [insAt_before (by omega) hm] at d0 d1 d2
 exact⟨⟨c0,c1,c2⟩,⟨d0,d1,d2⟩,hz⟩
def swapW (w:World) (g m:Nat) (x y:Fl):World:=(((((w.setCell ⟨g,(m+1)*3,none⟩ (.string y.nm)).setCell ⟨g,(m+1)*3+1,none⟩ (.string y.sy)).setCell ⟨g,(m+1)*3+2,none⟩ (.string y.ta)).setCell ⟨g,m*3,none⟩ (.string x.nm)).setCell ⟨g,m*3+1,none⟩ (.string x.sy)).setCell ⟨g,m*3+2,none⟩ (.string x.ta)
theorem srt_swap {w:World}{base g n c m:Nat}{W:List Fl}{x:Fl}(h:w.ownsRow base 55 3 (.slice (some ⟨g,0,none⟩) n c) n (flE.cells (insAt W (m+1) x))) (hm:m<W.length) (hn:W.length+1=n) :
 (swapW w g m x W[m]).ownsRow base 55 3 (.slice (some ⟨g,0,none⟩) n c) n (flE.cells (insAt W m x))∧w.grownBy (swapW w g m x W[m]) (some g):=by
 have hLl:(insAt W (m+1) x).length=n:=by rw [insAt_length W x hm]; exact hn
 have hm1:m+1<(insAt W (m+1) x).length:=by rw [hLl]; omega
 have hst:=fl_store3 h hm1 W[m].nm W[m].sy W[m].ta
 have hst2:=fl_store3 (L:=(insAt W (m+1) x).set (m+1) ⟨W[m].nm,W[m].sy,W[m].ta⟩) hst.1 (k:=m) (by rw [List.length_set]; omega) x.nm x.sy x.ta
 rw [swap_step hm] at hst2
 exact⟨hst2.1,grown_trans hst.2 hst2.2⟩
def srtList (W:List Fl) (x:Fl) (i:Nat):List Fl:=if i≤W.length then insAt W W.length x else insF x W
set_option maxRecDepth 20000 in
set_option maxHeartbeats 1000000 in
theorem insSort_any (g n c base:Nat) (W:List Fl) (x:Fl) (w:World) (h:w.ownsRow base 55 3 (.slice (some ⟨g,0,none⟩) n c) n (flE.cells (W++[x]))) (hn:n≤1000000) (hr:Rising W) (hbase:base≤w.heap.size) :
 Calls Tryz.prog 198 #[.slice (some ⟨g,0,none⟩) n c,.int .i64 0,.int .i64 (n:Int),.func (.func 154) #[] #[]] w fun e w' =>
  e = .returned (.tuple #[])∧w'.ownsRow base 55 3 (.slice (some ⟨g,0,none⟩) n c) n (flE.cells (insF x W))∧But (fun i=>i=g) w w':=by
 have hln:W.length+1=n:=by have h1:=h.1; rw [len_cells] at h1; simp at h1; omega
 have HN:=Lib.hid hln
 have HRS:=Lib.hid hr
 rw [← insAt_end] at h
 have h0:w.ownsRow base 55 3 (.slice (some ⟨g,0,none⟩) n c) n (flE.cells (srtList W x 1)):=by
  unfold srtList
  split
  ·exact h
  ·have:W=[]:=List.eq_nil_of_length_eq_zero (by omega)
   subst this; exact h
 have HM0:=Lib.hid h0
 have hn1:1≤n:=by omega
 clear h h0 hln hr
 go_enter Tryz.func198,Tryz.ntmps198
 go_wp2_with fail
 go_loopg [8,9] (n - 1) (fun gk vi v9 wr=>∃ (i:Nat),gk=n - i∧1≤i∧i≤n∧vi = .int .i64 (i:Int)∧Hid (But (fun i=>i=g) w wr)∧Hid (wr.ownsRow base 55 3 (.slice (some ⟨g,0,none⟩) n c) n (flE.cells (srtList W x i))))
 case atStart=>exact⟨1,rfl,Nat.le_refl _,hn1,rfl,Lib.hid (But.refl _ _),HM0⟩
 case round =>
  obtain⟨i,rfl,hi1,hin,rfl,hB,hM⟩:=hrel
  clear HM0
  obtain⟨wo,rfl⟩:∃ wo:World,wo=wr:=⟨_,rfl⟩
  by_cases hlt:i<n
  ·have hini:(i:Int)<(n:Int):=by omega
   by_cases hlast:i=W.length
   ·have hLI:srtList W x i=insAt W W.length x:=by unfold srtList; rw [if_pos (by omega)]
    rw [hLI] at hM
    have HIL:=Lib.hid hlast
    clear hlast hLI
    go_wp2_with fail
    go_loopg [9] i (fun gk vj wr=>∃ (j:Nat),gk=j∧j≤i∧vj = .int .i64 (j:Int)∧Hid (But (fun i=>i=g) w wr)∧Hid (wr.ownsRow base 55 3 (.slice (some ⟨g,0,none⟩) n c) n (flE.cells (insAt W j x)))∧Hid (∀ k (h:k<W.length),j≤k→ltN x.nm W[k].nm=true))
    case atStart=>exact⟨i,rfl,Nat.le_refl _,rfl,hB,by rw [HIL.out]; exact hM,Lib.hid (fun k h hk=>by have:=HIL.out; omega)⟩
    case round =>
     obtain⟨j,hgk,hji,rfl,hB2,hM2,hall⟩:=hrel
     have hgk:=hgk.symm
     subst hgk
     clear hB hM
     have hjW:j≤W.length:=by have:=HIL.out; omega
     rcases j with _ | m
     ·have hd0:decide ((0:Int)<(0:Int))=false:=by decide
      have hfin:Hid (insF x W=insAt W 0 x):=Lib.hid (insF_stop HRS.out (Nat.zero_le _) hall.out (fun h=>absurd h (by decide)))
      go_wp2_with fail
      go_quiet (fail)
      go_wp2_with fail
      go_roundg (n - (i+1))
      case rel=>exact⟨i+1,rfl,by omega,by omega,by go_num,Lib.hid (hB2.out.drewN _),by unfold srtList; rw [if_neg (by have:=HIL.out; omega),hfin.out]; exact Lib.hid hM2.out⟩
      case measure=>omega
     ·have hmW:m<W.length:=hjW
      have HCE:Hid (∀ w':World,w'.ownsRow base 55 3 (.slice (some ⟨g,0,none⟩) n c) n (flE.cells (insAt W (m+1) x))→_):=Lib.hid fun w' h=>srt_cells h hmW HN.out
      have HSW:Hid (∀ w':World,w'.ownsRow base 55 3 (.slice (some ⟨g,0,none⟩) n c) n (flE.cells (insAt W (m+1) x))→_):=Lib.hid fun w' h=>srt_swap h hmW HN.out
      have hjj:(0:Int)<((m+1:Nat):Int):=by omega
      have hmn:(m:Int)<(n:Int):=by have:=HN.out; omega
      have hmn1:(m:Int)+1<(n:Int):=by have:=HN.out; omega
      have hall2:Hid (ltN x.nm W[m].nm=true→∀ k (h:k<W.length),m≤k→ltN x.nm W[k].nm=true):=Lib.hid fun hq k h hk=>by
       by_cases hkm:k=m
       ·subst hkm; exact hq
       ·exact hall.out k h (by omega)
      have hfin:Hid (ltN x.nm W[m].nm=false→insF x W=insAt W (m+1) x):=Lib.hid fun hq=>insF_stop HRS.out hjW hall.out (fun h=>by simpa using hq)
      have hcmp:=Lib.hid (fun w=>cmp_any x W[m] w)
      have hneg:=cmpN_neg x W[m]
      have hrng:=cmpN_rng x W[m]
      obtain⟨v,hv⟩:∃ v,v=cmpN x W[m]:=⟨_,rfl⟩
      rw [← hv] at hcmp hneg hrng
      clear hv hall
      generalize W[m]=y at *
      obtain⟨y0,y1,y2⟩:=y
      obtain⟨x0,x1,x2⟩:=x
      unfold flVal at hcmp
      dsimp only at *
      cases hq:ltN x0 y0 with
      | true =>
        have hvn:v<0:=hneg.2 hq
        have hvd:decide (v<0)=true:=decide_eq_true hvn
        have HALL:=Lib.hid (hall2.out hq)
        clear hneg hrng hq hall2 hfin
        obtain⟨⟨c0,c1,c2⟩,⟨d0,d1,d2⟩,-⟩:=HCE.out wr hM2.out
        have p0:=Bel.cell c0
        have p1:=Bel.cell c1
        have p2:=Bel.cell c2
        have p3:=Bel.cell d0
        have p4:=Bel.cell d1
        have p5:=Bel.cell d2
        clear c0 c1 c2 d0 d1 d2
        try dsimp only at p0 p1 p2 p3 p4 p5
        go_wp2_with fail
        refine wp_region_bel (by kernel_rfl) (by kernel_rfl) ?_
        repeat (go_big_quiet_step (exact bel_of (hcmp.out _)))
        refine wpQuiet_nil ?_
        intro W8 hw'
        obtain⟨⟨W9,hW8⟩,he⟩:=hw'
        change W8=W9 at he
        subst he
        have hM8:=Enc.row_under hM2.out hW8
        have HB8:=Lib.hid (hB2.out.trans (But.ofBelow hW8))
        obtain⟨⟨c0,c1,c2⟩,⟨d0,d1,d2⟩,hz⟩:=HCE.out W8 hM8
        have HSW8:=Lib.hid (HSW.out W8 hM8)
        have z0:=hz ((m+1)*3)
        have z1:=hz ((m+1)*3+1)
        have z2:=hz ((m+1)*3+2)
        have z3:=hz (m*3)
        have z4:=hz (m*3+1)
        have z5:=hz (m*3+2)
        clear hz hM8 hW8 p0 p1 p2 p3 p4 p5 hcmp
        try dsimp only at c0 c1 c2 d0 d1 d2
        obtain⟨W9,hW9⟩:∃ W9,W9=swapW W8 g m ⟨x0,x1,x2⟩ ⟨y0,y1,y2⟩:=⟨_,rfl⟩
        rw [← hW9] at HSW8
        have HW9:=Lib.hid hW9
        clear hW9
        go_wp2_with fail
        go_big_region
        go_wp2_with fail
        have hW9:=HW9.out
        unfold swapW at hW9
        dsimp only at hW9
        rw [← hW9]
        clear hW9
        have HB9:Hid (But (fun i=>i=g) w W9.drew):=Lib.hid ((HB8.out.trans ((But.ofGrown HSW8.out.2).mono (fun i _ e=>by cases e; rfl))).drewN 1)
        have HM9:Hid (W9.drew.ownsRow base 55 3 (.slice (some ⟨g,0,none⟩) n c) n (flE.cells (insAt W m ⟨x0,x1,x2⟩))):=Lib.hid HSW8.out.1
        go_roundg m
        case rel=>exact⟨m,rfl,by omega,by go_num,HB9,HM9,HALL⟩
        case measure=>omega
      | false =>
        have hvn:¬ v<0:=fun e=>by have:=hneg.1 e; rw [hq] at this; cases this
        have hvd:decide (v<0)=false:=decide_eq_false hvn
        have HF:=Lib.hid (hfin.out hq)
        clear hneg hrng hq hall2 hfin hvn
        obtain⟨⟨c0,c1,c2⟩,⟨d0,d1,d2⟩,-⟩:=HCE.out wr hM2.out
        have p0:=Bel.cell c0
        have p1:=Bel.cell c1
        have p2:=Bel.cell c2
        have p3:=Bel.cell d0
        have p4:=Bel.cell d1
        have p5:=Bel.cell d2
        clear c0 c1 c2 d0 d1 d2
        try dsimp only at p0 p1 p2 p3 p4 p5
        go_wp2_with fail
        refine wp_region_bel (by kernel_rfl) (by kernel_rfl) ?_
        repeat (go_big_quiet_step (exact bel_of (hcmp.out _)))
        refine wpQuiet_nil ?_
        intro W8 hw'
        obtain⟨⟨W9,hW8⟩,he⟩:=hw'
        change W8=W9 at he
        subst he
        have HM8:=Lib.hid (Enc.row_under hM2.out hW8)
        have HB8:=Lib.hid (hB2.out.trans (But.ofBelow hW8))
        clear hW8 p0 p1 p2 p3 p4 p5 hcmp
        go_wp2_with fail
        go_roundg (n - (i+1))
        case rel=>exact⟨i+1,rfl,by omega,by omega,by go_num,HB8,by unfold srtList; rw [if_neg (by have:=HIL.out; omega),HF.out]; exact HM8⟩
        case measure=>omega
   ·have hLI:srtList W x i=insAt W W.length x:=by unfold srtList; rw [if_pos (by have:=HN.out; omega)]
    rw [hLI] at hM
    have hNX:Hid (srtList W x (i+1)=insAt W W.length x):=Lib.hid (by unfold srtList; rw [if_pos (by have:=HN.out; omega)])
    obtain⟨m,rfl⟩:∃ m,i=m+1:=⟨i - 1,by omega⟩
    have hmW:m+1<W.length:=by have:=HN.out; omega
    have hLl:(insAt W W.length x).length=n:=by rw [insAt_length W x (Nat.le_refl _)]; exact HN.out
    have hrow:wo.ownsRow base 55 3 (.slice (some ⟨g,0,none⟩) (insAt W W.length x).length c) (insAt W W.length x).length (flE.cells (insAt W W.length x)):=by rw [hLl]; exact hM.out
    obtain⟨c0,c1,c2,-⟩:=own_file hrow (k:=m+1) (by omega)
    obtain⟨d0,d1,d2,-⟩:=own_file hrow (k:=m) (by omega)
    rw [insAt_before hmW (Nat.le_refl _)] at c0 c1 c2
    rw [insAt_before (by omega) (Nat.le_refl _)] at d0 d1 d2
    have hasc:ltN W[m+1].nm W[m].nm=false:=ltN_asymm (List.pairwise_iff_getElem.1 HRS.out m (m+1) (by omega) hmW (by omega))
    have hcmp:=Lib.hid (fun w=>cmp_any W[m+1] W[m] w)
    have hneg:=cmpN_neg W[m+1] W[m]
    obtain⟨v,hv⟩:∃ v,v=cmpN W[m+1] W[m]:=⟨_,rfl⟩
    rw [← hv] at hcmp hneg
    have hvn:¬ v<0:=fun e=>by have:=hneg.1 e; rw [hasc] at this; cases this
    have hvd:decide (v<0)=false:=decide_eq_false hvn
    have hjj:(0:Int)<((m+1:Nat):Int):=by omega
    have hmn:(m:Int)<(n:Int):=by have:=HN.out; omega
    have hmn1:(m:Int)+1<(n:Int):=by have:=HN.out; omega
    clear hv hneg hvn hasc hrow hLI hLl
    generalize W[m+1]=xx at *
    generalize W[m]=y at *
    obtain⟨y0,y1,y2⟩:=y
    obtain⟨x0,x1,x2⟩:=xx
    unfold flVal at hcmp
    dsimp only at *
    have p0:=Bel.cell c0
    have p1:=Bel.cell c1
    have p2:=Bel.cell c2
    have p3:=Bel.cell d0
    have p4:=Bel.cell d1
    have p5:=Bel.cell d2
    clear c0 c1 c2 d0 d1 d2
    go_wp2_with fail
    go_loopg [9] 0 (fun gk vj wr=>vj = .int .i64 ((m:Int)+1)∧wo=wr)
    case atStart=>exact⟨by go_num,rfl⟩
    case round =>
     obtain⟨rfl,rfl⟩:=hrel
     go_wp2_with fail
     refine wp_region_bel (by kernel_rfl) (by kernel_rfl) ?_
     repeat (go_big_quiet_step (exact bel_of (hcmp.out _)))
     refine wpQuiet_nil ?_
     intro W8 hw'
     obtain⟨⟨W9,hW8⟩,he⟩:=hw'
     change W8=W9 at he
     subst he
     have HM8:=Lib.hid (Enc.row_under hM.out hW8)
     have HB8:=Lib.hid (hB.out.trans (But.ofBelow hW8))
     clear hW8 p0 p1 p2 p3 p4 p5 hcmp
     go_wp2_with fail
     go_roundg (n - (m+1+1))
     case rel=>exact⟨m+1+1,rfl,by omega,by omega,by go_num,HB8,by rw [hNX.out]; exact HM8⟩
     case measure=>omega
  ·have hini:(n:Int)≤(i:Int):=by omega
   obtain rfl:i=n:=by omega
   go_wp2_with fail
   go_end0
   refine⟨rfl,?_,hB.out⟩
   have h1:=hM.out
   unfold srtList at h1
   rw [if_neg (by have:=HN.out; omega)] at h1
   exact h1
end Go.Proofs.YtlpgbmaoenncjaaGreatDoor

namespace Go.Proofs.YtlpgbmaoenncjaaGreatDoor
open Go.RowKit Go.BigFrame
set_option linter.unusedVariables false
set_option maxRecDepth 100000
set_option maxRecDepth 100000 in
set_option maxHeartbeats 1000000 in
theorem pdq_any (g n c base:Nat) (lim:Int) (W:List Fl) (x:Fl) (w:World) (h:w.ownsRow base 55 3 (.slice (some ⟨g,0,none⟩) n c) n (flE.cells (W++[x]))) (hn:n≤12) (hr:Rising W) (hbase:base≤w.heap.size) :
 Calls Tryz.prog 183 #[.slice (some ⟨g,0,none⟩) n c,.int .i64 0,.int .i64 (n:Int),.int .i64 lim,.func (.func 154) #[] #[]] w fun e w' =>
  e = .returned (.tuple #[])∧w'.ownsRow base 55 3 (.slice (some ⟨g,0,none⟩) n c) n (flE.cells (insF x W))∧But (fun i=>i=g) w w':=by
 have H:=Lib.hid (insSort_any g n c base W x w h (by omega) hr hbase)
 have hn0:(0:Int)≤(n:Int):=by omega
 have hni:(n:Int)≤12:=by omega
 clear h hr
 go_enter Tryz.func183,Tryz.ntmps183
 go_wp2_with fail
 go_loopg [1,2] 0 (fun gk v1 v2 wr=>v1 = .int .i64 0∧v2 = .int .i64 (n:Int)∧w=wr)
 case atStart=>exact⟨rfl,rfl,rfl⟩
 case round =>
  obtain⟨rfl,rfl,rfl⟩:=hrel
  go_wp2_with fail
  refine H.out.mono ?_
  rintro e w1 ⟨rfl,h1,h2⟩
  have H1:=Lib.hid h1
  have H2:=Lib.hid h2
  clear h1 h2
  go_wp2_with fail
  refine bodyPost_ret (results_none rfl _ _ _) rfl ?_
  exact⟨rfl,H1.out,H2.out⟩
set_option maxHeartbeats 1000000 in
theorem sortFunc_any (g n c base:Nat) (W:List Fl) (x:Fl) (w:World) (h:w.ownsRow base 55 3 (.slice (some ⟨g,0,none⟩) n c) n (flE.cells (W++[x]))) (hn:n≤12) (hr:Rising W) (hbase:base≤w.heap.size) :
 Calls Tryz.prog 153 #[.slice (some ⟨g,0,none⟩) n c,.func (.func 154) #[] #[]] w fun e w' =>
  e = .returned (.tuple #[])∧w'.ownsRow base 55 3 (.slice (some ⟨g,0,none⟩) n c) n (flE.cells (insF x W))∧But (fun i=>i=g) w w':=by
 have H:=Lib.hid (fun lim=>pdq_any g n c base lim W x w h hn hr hbase)
 have HL:=Lib.hid (fun W=>Tryz.bits_Len (n:Int) W (by omega) (by omega))
 have hn0:(0:Int)≤(n:Int):=by omega
 have hni:(n:Int)≤12:=by omega
 clear h hr
 go_enter Tryz.func153,Tryz.ntmps153
 go_wp2_with fail
 refine (HL.out _).mono ?_
 rintro e w1 ⟨rfl,hw⟩
 subst hw
 go_wp2_with fail
 refine (H.out _).mono ?_
 rintro e w1 ⟨rfl,h1,h2⟩
 have H1:=Lib.hid h1
 have H2:=Lib.hid h2
 clear h1 h2
 go_wp2_with fail
 go_end0
 exact⟨rfl,H1.out,H2.out⟩
def isOf (fr toN:ByteArray) (f:Fl):Bool:=decide (f.nm=fr)||decide (f.nm=toN)
set_option maxHeartbeats 1000000 in
theorem isOf_any (f:Fl) (fr toN:ByteArray) (Bf Bt:Nat) (w:World) (h1:One w Bf 9 (.string fr)) (h2:One w Bt 9 (.string toN)) :
 Calls Tryz.prog 152 #[flVal f,.pointer (some ⟨Bf,0,none⟩),.pointer (some ⟨Bt,0,none⟩)] w fun e w'=>e = .returned (.bool (isOf fr toN f))∧Below w.heap.size w w':=by
 have hb:Below w.heap.size w (w.alloc (.cells #[.string f.nm,.string f.sy,.string f.ta] 55)):=(Below.refl _ w).alloc (Nat.le_refl _) _
 have c1:=(h1.alloc (.cells #[.string f.nm,.string f.sy,.string f.ta] 55)).cell
 have c2:=(h2.alloc (.cells #[.string f.nm,.string f.sy,.string f.ta] 55)).cell
 have HB:=Lib.hid hb
 clear h1 h2 hb
 by_cases hf:f.nm=fr
 ·have hv:isOf fr toN f=true:=by unfold isOf; rw [decide_eq_true hf]; rfl
  rw [hv]
  have hq:=toList_yes hf
  clear hf hv
  obtain⟨a0,a1,a2⟩:=f
  unfold flVal
  dsimp only at *
  go_enter Tryz.func152,Tryz.ntmps152
  go_wp2_with fail
  go_ret
  exact⟨rfl,HB.out⟩
 ·have hq:=toList_ne hf
  by_cases ht:f.nm=toN
  ·have hv:isOf fr toN f=true:=by unfold isOf; rw [decide_eq_true ht,Bool.or_true]
   rw [hv]
   have hq2:=toList_yes ht
   clear hf ht hv
   obtain⟨a0,a1,a2⟩:=f
   unfold flVal
   dsimp only at *
   go_enter Tryz.func152,Tryz.ntmps152
   go_wp2_with fail
   go_ret
   exact⟨rfl,HB.out⟩
  ·have hv:isOf fr toN f=false:=by unfold isOf; rw [decide_eq_false hf,decide_eq_false ht]; rfl
   rw [hv]
   have hq2:=toList_ne ht
   clear hf ht hv
   obtain⟨a0,a1,a2⟩:=f
   unfold flVal
   dsimp only at *
   go_enter Tryz.func152,Tryz.ntmps152
   go_wp2_with fail
   go_ret
   exact⟨rfl,HB.out⟩
theorem enters_isOf:∀ args w,(callFunc 152 args).run Tryz.prog w = .ok (.enter 152 args) w:=enters_of Tryz.func152 (by kernel_rfl) rfl
theorem filter_isOf (l:List Fl) (fr toN:ByteArray):l.filter (fun f=>!isOf fr toN f)=without (without l fr) toN:=by
 unfold without isOf
 rw [List.filter_filter]
 congr 1
 funext f
 by_cases h1:f.nm=fr <;> by_cases h2:f.nm=toN <;> simp [h1,h2]
def Three (w:World) (b:Nat) (v0 v1 v2:Value):Prop:=w.heap[b]? = some (.cells #[v0,v1,v2] 55 (0,0))
theorem Three.new (w:World) (v0 v1 v2:Value):Three (w.alloc (.cells #[v0,v1,v2] 55)) w.heap.size v0 v1 v2:=heap_alloc_new w _
theorem Three.c0 {w:World}{b:Nat}{v0 v1 v2:Value}(h:Three w b v0 v1 v2):w.cell? ⟨b,0,none⟩=some v0:=by unfold World.cell?; rw [show w.heap[b]? = _ from h]; rfl
theorem Three.c1 {w:World}{b:Nat}{v0 v1 v2:Value}(h:Three w b v0 v1 v2):w.cell? ⟨b,1,none⟩=some v1:=by unfold World.cell?; rw [show w.heap[b]? = _ from h]; rfl
theorem Three.c2 {w:World}{b:Nat}{v0 v1 v2:Value}(h:Three w b v0 v1 v2):w.cell? ⟨b,2,none⟩=some v2:=by unfold World.cell?; rw [show w.heap[b]? = _ from h]; rfl
theorem Three.free {w:World}{b:Nat}{v0 v1 v2:Value}(h:Three w b v0 v1 v2) (j:Nat):w.frozen? ⟨b,j,none⟩=false:=by unfold World.frozen?; rw [show w.heap[b]? = _ from h]; simp
theorem Three.lt {w:World}{b:Nat}{v0 v1 v2:Value}(h:Three w b v0 v1 v2):b<w.heap.size:=lt_of_block h
theorem Three.but {S:Nat→Prop}{w w':World}{b:Nat}{v0 v1 v2:Value}(h:Three w b v0 v1 v2) (k:But S w w') (hs:¬ S b):Three w' b v0 v1 v2:=(k.block b (lt_of_block h) hs).trans h
theorem Three.set0 {w:World}{b:Nat}{v0 v1 v2:Value}(h:Three w b v0 v1 v2) (u:Value):Three (w.setCell ⟨b,0,none⟩ u) b u v1 v2:=by
 have h':w.heap[b]? = _:=h
 show (w.setCell _ u).heap[b]? = _
 simp [World.setCell,Array.getElem?_modify,h']
set_option maxRecDepth 20000 in
set_option maxHeartbeats 1000000 in
theorem rename_fs (l:List Fl) (k Bat Bf Bt:Nat) (fr toN:ByteArray) (S:Nat→Prop) (w:World) (hk:k<l.length) (hr:Rising l) (h8:l.length≤8) (hnm:l[k].nm=fr)
 (h1:One w Bat 3 (.int .i64 (k:Int))) (h2:One w Bf 9 (.string fr)) (h3:One w Bt 9 (.string toN)) :
 FsFn 150 #[.pointer (some ⟨Bat,0,none⟩),.pointer (some ⟨Bf,0,none⟩),.pointer (some ⟨Bt,0,none⟩)] l (withF (without l fr) ⟨toN,l[k].sy,l[k].ta⟩) S w:=by
 intro W v base hb hb0 hbs hrow
 show Calls Tryz.prog 150 #[v,.pointer (some ⟨Bat,0,none⟩),.pointer (some ⟨Bf,0,none⟩),.pointer (some ⟨Bt,0,none⟩)] W _
 have hmf:∀ fn first cap w,(Instr.makeFunc fn first cap).run Tryz.prog w = .ok (.func fn first cap) w:=fun _ _ _ _=>rfl
 obtain⟨i0,hi,hz0,hz1,hz2⟩:=info_parts infoFile
 have HI:=Lib.hid hi
 have HZ:=Lib.hid (And.intro hz0 (And.intro hz1 hz2))
 clear hi hz0 hz1 hz2
 obtain⟨a,c,rfl⟩:=own_shape hrow
 obtain⟨g,rfl,hg1,hg2⟩:=own_some hrow (by omega)
 obtain⟨c0,c1,c2,-⟩:=own_file hrow hk
 have o1:=h1.below hb
 have o2:=h2.below hb
 have o3:=h3.below hb
 have hBt:Bt<base:=by have:=h3.lt; omega
 have hBf:Bf<base:=by have:=h2.lt; omega
 have hcB:=o1.cell
 obtain⟨x0,x1,x2,hx⟩:∃ x0 x1 x2,l[k]=⟨x0,x1,x2⟩:=⟨_,_,_,rfl⟩
 rw [hx] at c0 c1 c2 hnm ⊢
 dsimp only at c0 c1 c2 hnm ⊢
 obtain⟨fs,hfs⟩:∃ fs,fs=l.filter (fun f=>!isOf fr toN f):=⟨_,rfl⟩
 have hres:withF (without l fr) ⟨toN,x1,x2⟩=insF ⟨toN,x1,x2⟩ fs:=by unfold withF; rw [hfs,filter_isOf]
 have hfr:Rising fs:=by rw [hfs,filter_isOf]; exact without_rising (without_rising hr _) _
 have hfl:fs.length<l.length:=by
  rw [hfs,filter_isOf]
  have e1:=len_without hr hk
  rw [hx] at e1
  dsimp only at e1
  rw [hnm] at e1
  have:=len_without_le (without l fr) toN
  omega
 rw [hres]
 have HFR:=Lib.hid hfr
 have hA:Below W.heap.size W (W.alloc (.cells #[.string x0,.string x1,.string x2] 55)):=(Below.refl _ W).alloc (Nat.le_refl _) _
 have hrow2:=hrow.alloc (.cells #[.string x0,.string x1,.string x2] 55)
 have hdel:=Lib.hid (delFunc_any 152 #[.pointer (some ⟨Bf,0,none⟩),.pointer (some ⟨Bt,0,none⟩)] (isOf fr toN) enters_isOf g l.length c base l S _ hrow2 (by omega) (by simp; omega)
  (fun f hf W2 hb2=>isOf_any f fr toN Bf Bt W2 (hb2.one (o2.alloc _) (by omega)) (hb2.one (o3.alloc _) (by omega))) ⟨l[k],List.getElem_mem hk,by rw [hx]; unfold isOf; dsimp only; rw [decide_eq_true hnm]; rfl⟩)
 rw [← hfs] at hdel
 have HO3:=Lib.hid (o3.alloc (.cells #[.string x0,.string x1,.string x2] 55))
 have HT:=Lib.hid (Three.new W (.string x0) (.string x1) (.string x2))
 have HA:Hid (But (fun i=>S i∨base≤i) W (W.alloc (.cells #[.string x0,.string x1,.string x2] 55))):=Lib.hid (But.ofBelow hA)
 obtain⟨n,hn⟩:∃ n,n=l.length:=⟨_,rfl⟩
 have hki:(k:Int)<(n:Int):=by omega
 have hn8:n≤8:=by omega
 have hfn:fs.length<n:=by omega
 have hgW:g<W.heap.size:=hg2
 have hW6:∃ N6,N6=W.heap.size:=⟨_,rfl⟩
 obtain⟨N6,hN6⟩:=hW6
 have HN6:=Lib.hid hN6
 rw [← hn] at hdel ⊢
 have hgN:g<N6:=by omega
 have hbN:base≤N6:=by omega
 rw [← hN6] at HT
 have HBB:=Lib.hid hbs
 clear hrow hrow2 hfs hres hfr hfl hA hn hx hr hnm h1 h2 h3 o1 o2 o3 hb hb0 hbs hN6 hg2 hk h8
 go_enter Tryz.func150,Tryz.ntmps150
 go_wp2_with fail
 rw [← HN6.out]
 refine hdel.out.mono ?_
 rintro e w2 ⟨m,rfl,hr2,hbut⟩
 have hm:m=fs.length:=by have h1:=hr2.1; rw [len_cells] at h1; omega
 have HO4:=Lib.hid (hbut.one HO3.out (by omega))
 have HT4:=Lib.hid (HT.out.but hbut (by omega))
 have HA4:=Lib.hid (HA.out.trans (hbut.mono (T:=fun i=>S i∨base≤i) (fun i _ e=>.inr (by rw [e]; exact hg1))))
 have HR4:=Lib.hid hr2
 have HM:=Lib.hid hm
 have t0:=HT4.out.c0; have t1:=HT4.out.c1; have t2:=HT4.out.c2
 have z0:=HT4.out.free 0
 have q3:=HO4.out.cell
 have hm8:m≤8:=by omega
 clear hbut hr2 hm hdel
 have hb5:base≤w2.heap.size:=Nat.le_trans HBB.out HA4.out.size
 have hgN6:(Value.slice (some ⟨g,0,none⟩) m c).ownBlock≠some N6:=fun e=>by
  have h1:g=N6:=by simpa [Value.ownBlock] using e
  omega
 have HO5:Hid (((w2.setCell ⟨N6,0,none⟩ (.string toN)).alloc (.cells #[.string toN,.string x1,.string x2] 55)).ownsRow base 55 3 (.slice (some ⟨g,0,none⟩) m c) m (flE.cells fs)):=Lib.hid ((HR4.out.kept (grown_setCell w2 N6 0 (.string toN)) (.inr hgN6)).alloc _)
 have HA5:Hid (But (fun i=>S i∨base≤i) W ((w2.setCell ⟨N6,0,none⟩ (.string toN)).alloc (.cells #[.string toN,.string x1,.string x2] 55))):=Lib.hid ((HA4.out.setCell ⟨N6,0,none⟩ (fun _=>.inr hbN) (.string toN)).trans (But.ofBelow ((Below.refl _ _).alloc (Nat.le_refl _) _)))
 have HSR:Hid (flE.Sl ((w2.setCell ⟨N6,0,none⟩ (.string toN)).alloc (.cells #[.string toN,.string x1,.string x2] 55)) (some ⟨w2.heap.size,0,none⟩) 1 [⟨toN,x1,x2⟩]):=Lib.hid (by
  have h1:=Enc.Sl.one (E:=flE) (w2.setCell ⟨N6,0,none⟩ (.string toN)) ⟨toN,x1,x2⟩ 55 #[.string toN,.string x1,.string x2] rfl
  simpa using h1)
 have HBS5:Hid (base≤((w2.setCell ⟨N6,0,none⟩ (.string toN)).alloc (.cells #[.string toN,.string x1,.string x2] 55)).heap.size):=Lib.hid (by simp; omega)
 go_wp2_with (at_builtin; refine Enc.wpList_app (E:=flE) _ rfl _ _ 36 rfl base 55 i0 _ 48 Tryz.underlying36 HI.out HZ.out.1 HZ.out.2.1 HZ.out.2.2 rfl _ m fs HO5.out rfl (some ⟨w2.heap.size,0,none⟩) 1 1 [⟨toN,x1,x2⟩] rfl HSR.out (fun e=>by cases e) (by unfold maxLen; omega) (by omega) HBS5.out ?_)
 intro v6 w6 ho6 hg6
 have hlt6:=HO5.out.lt
 have HA6:=Lib.hid (HA5.out.trans ((But.ofGrown hg6).mono (T:=fun i=>S i∨base≤i) (fun i _ e=>.inr (hlt6 i e.symm).1)))
 obtain⟨a6,n6,c6,rfl⟩:∃ a n c,v6 = .slice a n c:=by
  obtain⟨a,c,rfl,_⟩:=Enc.own_sl (E:=flE) ho6
  exact⟨_,_,_,rfl⟩
 have hn6:n6=m+1:=by
  obtain⟨a,c,he,_⟩:=Enc.own_sl (E:=flE) ho6
  cases he; rfl
 subst hn6
 obtain⟨g6,rfl,hg6b,hg6l⟩:=own_some ho6 (by omega)
 have hb6:base≤w6.heap.size:=Nat.le_trans HBS5.out hg6.size
 have hsort:=Lib.hid (sortFunc_any g6 (m+1) c6 base fs ⟨toN,x1,x2⟩ w6 ho6 (by omega) HFR.out hb6)
 clear ho6 hg6 hlt6 t0 t1 t2 z0 q3
 go_wp2_with fail
 refine hsort.out.mono ?_
 rintro e w7 ⟨rfl,hr7,hb7⟩
 have HR7:=Lib.hid hr7
 have HA7:=Lib.hid (HA6.out.trans (hb7.mono (T:=fun i=>S i∨base≤i) (fun i _ e=>.inr (by rw [e]; exact hg6b))))
 clear hr7 hb7
 go_wp2_with fail
 go_ret
 have hlen:(insF ⟨toN,x1,x2⟩ fs).length=m+1:=by rw [(insF_perm _ _).length_eq,List.length_cons,HM.out]
 exact⟨_,rfl,by rw [hlen]; exact HR7.out,HA7.out⟩
end Go.Proofs.YtlpgbmaoenncjaaGreatDoor

namespace Go.Proofs.YtlpgbmaoenncjaaGreatDoor
open Go.RowKit Go.BigFrame
set_option linter.unusedVariables false
set_option maxRecDepth 100000
set_option maxHeartbeats 2000000 in
theorem rename_not (a:Option Addr) (n c:Nat) (d:Dk) (nm toN:ByteArray) (w:World) (h:DkAt w a n c d) (hs:nm.size≤maxLen) (hs2:toN.size≤maxLen) (r0:Int) (hr0:r0=readyD d [nm,toN]) (hz:r0≠0) :
 Calls Tryz.prog 104 #[d.val a n c,.string nm,.string toN] w (RetDk w (Dk.zero,r0)):=by
 have hmf:∀ fn first cap w,(Instr.makeFunc fn first cap).run Tryz.prog w = .ok (.func fn first cap) w:=fun _ _ _ _=>rfl
 have HA:=Lib.hid (three_below w d a n c nm toN)
 have HB:=Lib.hid (three_box w d a n c nm toN)
 have HO:=Lib.hid (three_out w d a n c nm toN)
 have HNM:=Lib.hid (three_nm w d a n c nm toN)
 have HMO:=Lib.hid (three_more w d a n c nm toN)
 have HZ:=Lib.hid (three_size w d a n c nm toN)
 have hr:=Lib.hid (ready_two a n c d nm toN w _ h (three_below w d a n c nm toN) hs hs2 (w.heap.size+4) (by rw [three_size]) r0 (Lib.hid hr0))
 have hnb:=h.nb
 have hne:(r0 != 0)=true:=bne_iff_ne.2 hz
 clear hr0 hz h
 unfold threeW at *
 obtain⟨rm,l,lf,dn⟩:=d
 unfold Dk.val at *
 dsimp only at *
 go_enter Tryz.func104,Tryz.ntmps104
 go_wp2_with fail
 refine hr.out.mono ?_
 rintro e w1 ⟨rfl,hb1⟩
 have HB1:=Lib.hid (below_then HA.out hb1 HA.out.size)
 have hB1:=HB.out.keep hb1
 have o1:=Four.keep HO.out hb1
 have n1:=One.below HNM.out hb1
 have m1:=One.below HMO.out hb1
 have q0:=hB1.c0; have q1:=hB1.c1; have q2:=hB1.c2; have q3:=hB1.c3
 have qn:=n1.cell
 have qm:=m1.cell
 have O1:=Lib.hid o1
 have P1:=Lib.hid hB1
 have N1:=Lib.hid n1
 have M1:=Lib.hid m1
 have hz1:w.heap.size+3<w1.heap.size:=by have h1:=hb1.size; rw [HZ.out] at h1; omega
 clear hB1 o1 hb1 n1 m1
 have o2:=O1.out
 have e0:=o2.c0; have e1:=o2.c1; have e2:=o2.c2; have e3:=o2.c3
 have g0:=o2.free 0; have g1:=o2.free 1; have g2:=o2.free 2; have g3:=o2.free 3
 clear o2 q0 q1 q2 q3
 go_wp2_with fail
 refine bodyPost_ret (v:=.tuple #[.agg #[.int .i64 0,.slice none 0 0,.int .i64 0,.bool false],.int .i64 r0]) ?_ rfl ?_
 ·rw [results_cell_tmp rfl]; go_simp
 ·exact RetDk.zero4 r0 _ HB1.out (by omega)
set_option maxHeartbeats 2000000 in
theorem rename_none (a:Option Addr) (n c:Nat) (d:Dk) (nm toN:ByteArray) (w:World) (h:DkAt w a n c d) (hs:nm.size≤maxLen) (hs2:toN.size≤maxLen) (r0:Int) (hr0:r0=readyD d [nm,toN]) (hz:r0=0) (k0:Int) (hk0:k0=atL d.files nm) (hk:k0<0) :
 Calls Tryz.prog 104 #[d.val a n c,.string nm,.string toN] w (RetDk w (Dk.zero,60)):=by
 have hmf:∀ fn first cap w,(Instr.makeFunc fn first cap).run Tryz.prog w = .ok (.func fn first cap) w:=fun _ _ _ _=>rfl
 have HA:=Lib.hid (three_below w d a n c nm toN)
 have HB:=Lib.hid (three_box w d a n c nm toN)
 have HO:=Lib.hid (three_out w d a n c nm toN)
 have HNM:=Lib.hid (three_nm w d a n c nm toN)
 have HMO:=Lib.hid (three_more w d a n c nm toN)
 have HZ:=Lib.hid (three_size w d a n c nm toN)
 have hr:=Lib.hid (ready_two a n c d nm toN w _ h (three_below w d a n c nm toN) hs hs2 (w.heap.size+4) (by rw [three_size]) r0 (Lib.hid hr0))
 have hnb:=h.nb
 subst hz
 have hf:=Lib.hid (fun (W:World) (hb:Below w.heap.size w W)=>find_any a n c d.files nm W (h.sl.keep hb) hnb k0 (Lib.hid hk0))
 clear hr0 hk0 h
 unfold threeW at *
 obtain⟨rm,l,lf,dn⟩:=d
 unfold Dk.val at *
 dsimp only at *
 go_enter Tryz.func104,Tryz.ntmps104
 go_wp2_with fail
 refine hr.out.mono ?_
 rintro e w1 ⟨rfl,hb1⟩
 have HB1:=Lib.hid (below_then HA.out hb1 HA.out.size)
 have hB1:=HB.out.keep hb1
 have o1:=Four.keep HO.out hb1
 have n1:=One.below HNM.out hb1
 have m1:=One.below HMO.out hb1
 have q0:=hB1.c0; have q1:=hB1.c1; have q2:=hB1.c2; have q3:=hB1.c3
 have qn:=n1.cell
 have qm:=m1.cell
 have O1:=Lib.hid o1
 have P1:=Lib.hid hB1
 have N1:=Lib.hid n1
 have M1:=Lib.hid m1
 have hz1:w.heap.size+3<w1.heap.size:=by have h1:=hb1.size; rw [HZ.out] at h1; omega
 clear hB1 o1 hb1 n1 m1
 go_wp2_with fail
 refine (hf.out w1 HB1.out).mono ?_
 rintro e w2 ⟨rfl,hb2⟩
 have hb2':=below_then HB1.out hb2 HB1.out.size
 have HB2:=Lib.hid (hb2'.alloc hb2'.size (.cells #[.int .i64 k0] 3))
 have O2:=Lib.hid ((Four.keep O1.out hb2).alloc (.cells #[.int .i64 k0] 3))
 have P2:=Lib.hid ((Four.keep P1.out hb2).alloc (.cells #[.int .i64 k0] 3))
 have N2:=Lib.hid ((One.below N1.out hb2).alloc (.cells #[.int .i64 k0] 3))
 have M2:=Lib.hid ((One.below M1.out hb2).alloc (.cells #[.int .i64 k0] 3))
 have A2:=Lib.hid (One.new w2 3 (.int .i64 k0))
 have hsz2:w1.heap.size≤w2.heap.size:=hb2.size
 clear hb2 q0 q1 q2 q3 qn qm hb2'
 have o2:=O2.out
 have e0:=o2.c0; have e1:=o2.c1; have e2:=o2.c2; have e3:=o2.c3
 have g0:=o2.free 0; have g1:=o2.free 1; have g2:=o2.free 2; have g3:=o2.free 3
 have qa:=A2.out.cell
 clear o2
 go_wp2_with fail
 refine bodyPost_ret (v:=.tuple #[.agg #[.int .i64 0,.slice none 0 0,.int .i64 0,.bool false],.int .i64 60]) ?_ rfl ?_
 ·rw [results_cell_tmp rfl]; go_simp
 ·exact RetDk.zero4 60 _ HB2.out (by omega)
set_option maxHeartbeats 2000000 in
theorem rename_dirty (a:Option Addr) (n c:Nat) (d:Dk) (nm toN:ByteArray) (w:World) (h:DkAt w a n c d) (hs:nm.size≤maxLen) (hs2:toN.size≤maxLen) (r0:Int) (hr0:r0=readyD d [nm,toN]) (hz:r0=0) (k:Nat) (hk0:(k:Int)=atL d.files nm) (hkl:k<d.files.length) (hta:d.files[k].ta.size≠0) :
 Calls Tryz.prog 104 #[d.val a n c,.string nm,.string toN] w (RetDk w (Dk.zero,131)):=by
 have hmf:∀ fn first cap w,(Instr.makeFunc fn first cap).run Tryz.prog w = .ok (.func fn first cap) w:=fun _ _ _ _=>rfl
 have HA:=Lib.hid (three_below w d a n c nm toN)
 have HB:=Lib.hid (three_box w d a n c nm toN)
 have HO:=Lib.hid (three_out w d a n c nm toN)
 have HNM:=Lib.hid (three_nm w d a n c nm toN)
 have HMO:=Lib.hid (three_more w d a n c nm toN)
 have HZ:=Lib.hid (three_size w d a n c nm toN)
 have hr:=Lib.hid (ready_two a n c d nm toN w _ h (three_below w d a n c nm toN) hs hs2 (w.heap.size+4) (by rw [three_size]) r0 (Lib.hid hr0))
 have hnb:=h.nb
 subst hz
 have hf:=Lib.hid (fun (W:World) (hb:Below w.heap.size w W)=>find_any a n c d.files nm W (h.sl.keep hb) hnb (k:Int) (Lib.hid hk0))
 have hln:=h.len
 have hkn:(k:Int)<(n:Int):=by omega
 have hk00:¬ ((k:Int)<0):=by omega
 have hfl:Hid (∀ (W:World),Below w.heap.size w W→∃ b off,a=some ⟨b,off,none⟩∧W.cell? ⟨b,off+k*3+2,none⟩=some (.string d.files[k].ta)):=Lib.hid fun W hb=>by
  obtain⟨b,off,he,hc⟩:=(fl_at h.sl (by omega)).2
  exact⟨b,off,he,(hc.keep hb k hkl).2.2⟩
 have hte:=eqNil_no hta
 have hte2:=isEmpty_no hta
 generalize d.files[k]=o at *
 obtain⟨o0,o1,o2⟩:=o
 dsimp only at hte hte2 hta hfl
 clear hr0 hk0 h hln hta
 unfold threeW at *
 obtain⟨rm,l,lf,dn⟩:=d
 unfold Dk.val at *
 dsimp only at *
 go_enter Tryz.func104,Tryz.ntmps104
 go_wp2_with fail
 refine hr.out.mono ?_
 rintro e w1 ⟨rfl,hb1⟩
 have HB1:=Lib.hid (below_then HA.out hb1 HA.out.size)
 have hB1:=HB.out.keep hb1
 have o1:=Four.keep HO.out hb1
 have n1:=One.below HNM.out hb1
 have m1:=One.below HMO.out hb1
 have q0:=hB1.c0; have q1:=hB1.c1; have q2:=hB1.c2; have q3:=hB1.c3
 have qn:=n1.cell
 have qm:=m1.cell
 have O1:=Lib.hid o1
 have P1:=Lib.hid hB1
 have N1:=Lib.hid n1
 have M1:=Lib.hid m1
 have hz1:w.heap.size+3<w1.heap.size:=by have h1:=hb1.size; rw [HZ.out] at h1; omega
 clear hB1 o1 hb1 n1 m1
 go_wp2_with fail
 refine (hf.out w1 HB1.out).mono ?_
 rintro e w2 ⟨rfl,hb2⟩
 have hb2':=below_then HB1.out hb2 HB1.out.size
 have HB2:=Lib.hid (hb2'.alloc hb2'.size (.cells #[.int .i64 (k:Int)] 3))
 have O2:=Lib.hid ((Four.keep O1.out hb2).alloc (.cells #[.int .i64 (k:Int)] 3))
 have P2:=Lib.hid ((Four.keep P1.out hb2).alloc (.cells #[.int .i64 (k:Int)] 3))
 have N2:=Lib.hid ((One.below N1.out hb2).alloc (.cells #[.int .i64 (k:Int)] 3))
 have M2:=Lib.hid ((One.below M1.out hb2).alloc (.cells #[.int .i64 (k:Int)] 3))
 have A2:=Lib.hid (One.new w2 3 (.int .i64 (k:Int)))
 have hsz2:w1.heap.size≤w2.heap.size:=hb2.size
 clear hb2 q0 q1 q2 q3 qn qm hb2'
 have o2x:=O2.out
 have p2:=P2.out
 have e0:=o2x.c0; have e1:=o2x.c1; have e2:=o2x.c2; have e3:=o2x.c3
 have g0:=o2x.free 0; have g1:=o2x.free 1; have g2:=o2x.free 2; have g3:=o2x.free 3
 have qa:=A2.out.cell
 have q1:=p2.c1
 obtain⟨b,off,rfl,hcf⟩:=hfl.out _ HB2.out
 clear o2x p2
 go_wp2_with fail
 refine bodyPost_ret (v:=.tuple #[.agg #[.int .i64 0,.slice none 0 0,.int .i64 0,.bool false],.int .i64 131]) ?_ rfl ?_
 ·rw [results_cell_tmp rfl]; go_simp
 ·exact RetDk.zero4 131 _ HB2.out (by omega)
set_option maxHeartbeats 2000000 in
theorem rename_ok (a:Option Addr) (n c:Nat) (d:Dk) (nm toN:ByteArray) (w:World) (h:DkAt w a n c d) (hs:nm.size≤maxLen) (hs2:toN.size≤maxLen) (r0:Int) (hr0:r0=readyD d [nm,toN]) (hz:r0=0) (k:Nat) (hk0:(k:Int)=atL d.files nm) (hkl:k<d.files.length) (hnm:d.files[k].nm=nm) (hta:d.files[k].ta.size=0) (hfo:fileOf d.files nm=d.files[k]) (hright:rightD d=true) :
 Calls Tryz.prog 104 #[d.val a n c,.string nm,.string toN] w (RetDk w (doneD d (renamed d.files nm toN) d.files)):=by
 have hmf:∀ fn first cap w,(Instr.makeFunc fn first cap).run Tryz.prog w = .ok (.func fn first cap) w:=fun _ _ _ _=>rfl
 have HA:=Lib.hid (three_below w d a n c nm toN)
 have HB:=Lib.hid (three_box w d a n c nm toN)
 have HO:=Lib.hid (three_out w d a n c nm toN)
 have HNM:=Lib.hid (three_nm w d a n c nm toN)
 have HMO:=Lib.hid (three_more w d a n c nm toN)
 have HZ:=Lib.hid (three_size w d a n c nm toN)
 have hr:=Lib.hid (ready_two a n c d nm toN w _ h (three_below w d a n c nm toN) hs hs2 (w.heap.size+4) (by rw [three_size]) r0 (Lib.hid hr0))
 have hnb:=h.nb
 subst hz
 have hf:=Lib.hid (fun (W:World) (hb:Below w.heap.size w W)=>find_any a n c d.files nm W (h.sl.keep hb) hnb (k:Int) (Lib.hid hk0))
 have hln:=h.len
 have hkn:(k:Int)<(n:Int):=by omega
 have hk00:¬ ((k:Int)<0):=by omega
 have hfl:Hid (∀ (W:World),Below w.heap.size w W→∃ b off,a=some ⟨b,off,none⟩∧W.cell? ⟨b,off+k*3+2,none⟩=some (.string d.files[k].ta)):=Lib.hid fun W hb=>by
  obtain⟨b,off,he,hc⟩:=(fl_at h.sl (by omega)).2
  exact⟨b,off,he,(hc.keep hb k hkl).2.2⟩
 have hte0:d.files[k].ta=⟨#[]⟩:=size0 hta
 have hn8:d.files.length≤8:=(rightD_nums hright).2.1
 have hrr:rightD (doneD d (renamed d.files nm toN) d.files).1=true:=by
  have h1:=@rename_right d nm toN
  unfold renameD at h1
  rw [← hr0,if_neg (by simp),if_neg (by rw [← hk0]; omega),hfo,if_neg (by simpa using hta)] at h1
  exact h1
 have hren:renamed d.files nm toN=withF (without d.files nm) ⟨toN,d.files[k].sy,d.files[k].ta⟩:=by unfold renamed; rw [hfo]
 have H:=Lib.hid h
 obtain⟨r,hre⟩:∃ r,r=doneD d (renamed d.files nm toN) d.files:=⟨_,rfl⟩
 have hdone:=Lib.hid (fun (W:World) (Bat Bf Bt:Nat) (hb:Below w.heap.size w W) (o1:One W Bat 3 (.int .i64 (k:Int))) (o2:One W Bf 9 (.string nm)) (o3:One W Bt 9 (.string toN))=>by
  have hfs:FsFn 150 #[.pointer (some ⟨Bat,0,none⟩),.pointer (some ⟨Bf,0,none⟩),.pointer (some ⟨Bt,0,none⟩)] d.files (renamed d.files nm toN) (fun _=>False) W:=by
   rw [hren]
   exact rename_fs d.files k Bat Bf Bt nm toN (fun _=>False) W hkl (rightD_fs hright).2 hn8 hnm o1 o2 o3
  have:=done_any a n c d 150 149 #[.pointer (some ⟨Bat,0,none⟩),.pointer (some ⟨Bf,0,none⟩),.pointer (some ⟨Bt,0,none⟩)] #[] _ d.files (fun _=>False) W (H.out.keep hb) (by omega) enters_rename enters_same hfs (same_fs _ _ _) (fun _ h=>h.elim) hrr
  rw [← hre] at this
  exact this)
 rw [← hre]
 rw [hte0] at hfl
 clear hr0 hk0 h hln hta hte0 hrr hren hre hn8 hfo hnm hright
 unfold threeW at *
 obtain⟨rm,l,lf,dn⟩:=d
 unfold Dk.val at *
 dsimp only at *
 go_enter Tryz.func104,Tryz.ntmps104
 go_wp2_with fail
 refine hr.out.mono ?_
 rintro e w1 ⟨rfl,hb1⟩
 have HB1:=Lib.hid (below_then HA.out hb1 HA.out.size)
 have hB1:=HB.out.keep hb1
 have o1:=Four.keep HO.out hb1
 have n1:=One.below HNM.out hb1
 have m1:=One.below HMO.out hb1
 have q0:=hB1.c0; have q1:=hB1.c1; have q2:=hB1.c2; have q3:=hB1.c3
 have qn:=n1.cell
 have qm:=m1.cell
 have O1:=Lib.hid o1
 have P1:=Lib.hid hB1
 have N1:=Lib.hid n1
 have M1:=Lib.hid m1
 have hz1:w.heap.size+3<w1.heap.size:=by have h1:=hb1.size; rw [HZ.out] at h1; omega
 clear hB1 o1 hb1 n1 m1
 go_wp2_with fail
 refine (hf.out w1 HB1.out).mono ?_
 rintro e w2 ⟨rfl,hb2⟩
 have hb2':=below_then HB1.out hb2 HB1.out.size
 have HB2:=Lib.hid (hb2'.alloc hb2'.size (.cells #[.int .i64 (k:Int)] 3))
 have O2:=Lib.hid ((Four.keep O1.out hb2).alloc (.cells #[.int .i64 (k:Int)] 3))
 have P2:=Lib.hid ((Four.keep P1.out hb2).alloc (.cells #[.int .i64 (k:Int)] 3))
 have N2:=Lib.hid ((One.below N1.out hb2).alloc (.cells #[.int .i64 (k:Int)] 3))
 have M2:=Lib.hid ((One.below M1.out hb2).alloc (.cells #[.int .i64 (k:Int)] 3))
 have A2:=Lib.hid (One.new w2 3 (.int .i64 (k:Int)))
 have hsz2:w1.heap.size≤w2.heap.size:=hb2.size
 clear hb2 q0 q1 q2 q3 qn qm hb2'
 obtain⟨A,hA9⟩:∃ A,A=w2.heap.size:=⟨_,rfl⟩
 have p2:=P2.out
 have qa:=A2.out.cell
 have q0:=p2.c0; have q1:=p2.c1; have q2:=p2.c2; have q3:=p2.c3
 have HSA:Hid (w.heap.size+3<w2.heap.size):=Lib.hid (by omega)
 have HC9:=Lib.hid (hdone.out _ w2.heap.size (w.heap.size+1) (w.heap.size+2) HB2.out A2.out N2.out M2.out)
 obtain⟨b,off,rfl,hcf⟩:=hfl.out _ HB2.out
 clear p2 hdone hA9
 go_wp2_with fail
 refine HC9.out.mono ?_
 rintro e w3 ⟨a3,n3,c3,rfl,hbd,hx3⟩
 obtain⟨⟨rm3,l3,lf3,dn3⟩,x3⟩:=r
 have o2:=hbd.1.four O2.out (fun h=>h)
 have HBD:=Lib.hid hbd
 have HX3:=Lib.hid hx3
 clear hbd hx3 q0 q1 q2 q3 qa hcf
 have e0:=o2.c0; have e1:=o2.c1; have e2:=o2.c2; have e3:=o2.c3
 have g0:=o2.free 0; have g1:=o2.free 1; have g2:=o2.free 2; have g3:=o2.free 3
 clear o2
 unfold Dk.val
 dsimp only
 go_wp2_with fail
 refine bodyPost_ret (v:=.tuple #[.agg #[.int .i64 rm3,.slice a3 n3 c3,.int .i64 lf3,.bool dn3],.int .i64 x3]) ?_ rfl ?_
 ·rw [results_cell_tmp rfl]; go_simp
 ·exact ret_out (r:=(⟨rm3,l3,lf3,dn3⟩,x3)) HB2.out (fun _ h=>h.elim) HBD.out HX3.out (by omega) (by have:=HSA.out; simp; omega) _ _ _ _
theorem rename_any (a:Option Addr) (n c:Nat) (d:Dk) (nm toN:ByteArray) (w:World) (h:DkAt w a n c d) (hs:nm.size≤maxLen) (hs2:toN.size≤maxLen) :
 Calls Tryz.prog 104 #[d.val a n c,.string nm,.string toN] w (RetDk w (renameD d nm toN)):=by
 unfold renameD
 by_cases hz:readyD d [nm,toN]=0
 ·rw [if_neg (by simpa using hz)]
  by_cases h1:atL d.files nm<0
  ·rw [if_pos h1]
   exact rename_none a n c d nm toN w h hs hs2 _ rfl hz _ rfl h1
  ·rw [if_neg h1]
   obtain⟨k,hk,h2,h3,h4⟩:=atL_lt h1
   rw [h4]
   by_cases h5:d.files[k].ta.size=0
   ·rw [if_neg (by simpa using h5)]
    exact rename_ok a n c d nm toN w h hs hs2 _ rfl hz k h2.symm hk h3 h5 h4 (ready_parts hz).1
   ·rw [if_pos h5]
    exact rename_dirty a n c d nm toN w h hs hs2 _ rfl hz k h2.symm hk h5
 ·rw [if_pos hz]
  exact rename_not a n c d nm toN w h hs hs2 _ rfl hz
end Go.Proofs.YtlpgbmaoenncjaaGreatDoor

namespace Go.Proofs.YtlpgbmaoenncjaaGreatDoor
open Go.RowKit Go.BigFrame
set_option linter.unusedVariables false
set_option maxRecDepth 100000
end Go.Proofs.YtlpgbmaoenncjaaGreatDoor

namespace Go.Proofs.YtlpgbmaoenncjaaGreatDoor
open Go.RowKit Go.BigFrame
set_option linter.unusedVariables false
set_option maxRecDepth 100000
structure WithSt (w wr:World) (aw:Option Addr) (q:Nat) (Ws:List Fl) (x:Fl) (v5:Value) (m:Nat) (L:List Fl):Prop where
 below:Below w.heap.size w wr
 sl:flE.Sl wr aw q Ws
 box:Three wr w.heap.size (.string x.nm) (.string x.sy) (.string x.ta)
 row:wr.ownsRow w.heap.size 55 3 v5 m (flE.cells L)
 len:m=L.length
 far:∀ b,v5.ownBlock=some b→b≠w.heap.size∧∀ p,aw=some p→p.block≠b
 lt:∀ p,aw=some p→p.block<wr.heap.size
theorem WithSt.alloc {w wr:World}{aw:Option Addr}{q m:Nat}{Ws L:List Fl}{x:Fl}{v5:Value}(h:WithSt w wr aw q Ws x v5 m L) (o:Obj):WithSt w (wr.alloc o) aw q Ws x v5 m L :=
 ⟨h.below.alloc h.below.size o,h.sl.keep ((Below.refl _ _).alloc (Nat.le_refl _) _),(Below.heap_alloc wr o _ (lt_of_block h.box)).trans h.box,h.row.alloc o,h.len,h.far,fun p hp=>by have:=h.lt p hp; simp; omega⟩
end Go.Proofs.YtlpgbmaoenncjaaGreatDoor

namespace Go.Proofs.YtlpgbmaoenncjaaGreatDoor
open Go.RowKit Go.BigFrame
set_option linter.unusedVariables false
set_option maxRecDepth 100000
theorem Three.kept {w w':World}{b:Nat}{v0 v1 v2:Value}(h:Three w b v0 v1 v2) {row:Option Nat}(hg:w.grownBy w' row) (hr:some b≠row):Three w' b v0 v1 v2:=(hg.block b (lt_of_block h) hr).trans h
theorem Three.keep {w w':World}{b:Nat}{v0 v1 v2:Value}(h:Three w b v0 v1 v2) (hb:Below w.heap.size w w'):Three w' b v0 v1 v2:=(hb.block b (lt_of_block h)).trans h
theorem Three.alloc {w:World}{b:Nat}{v0 v1 v2:Value}(h:Three w b v0 v1 v2) (o:Obj):Three (w.alloc o) b v0 v1 v2:=(Below.heap_alloc w o b (lt_of_block h)).trans h
theorem Three.set1 {w:World}{b:Nat}{v0 v1 v2:Value}(h:Three w b v0 v1 v2) (u:Value):Three (w.setCell ⟨b,1,none⟩ u) b v0 u v2:=by
 have h':w.heap[b]? = _:=h
 show (w.setCell _ u).heap[b]? = _
 simp [World.setCell,Array.getElem?_modify,h']
theorem Three.set2 {w:World}{b:Nat}{v0 v1 v2:Value}(h:Three w b v0 v1 v2) (u:Value):Three (w.setCell ⟨b,2,none⟩ u) b v0 v1 u:=by
 have h':w.heap[b]? = _:=h
 show (w.setCell _ u).heap[b]? = _
 simp [World.setCell,Array.getElem?_modify,h']
end Go.Proofs.YtlpgbmaoenncjaaGreatDoor

namespace Go.Proofs.YtlpgbmaoenncjaaGreatDoor
open Go.RowKit Go.BigFrame
set_option linter.unusedVariables false
set_option maxRecDepth 100000
end Go.Proofs.YtlpgbmaoenncjaaGreatDoor

namespace Go.Proofs.YtlpgbmaoenncjaaGreatDoor
open Go.RowKit Go.BigFrame
set_option linter.unusedVariables false
set_option maxRecDepth 100000
end Go.Proofs.YtlpgbmaoenncjaaGreatDoor

namespace Go.Proofs.YtlpgbmaoenncjaaGreatDoor
open Go.RowKit Go.BigFrame
set_option linter.unusedVariables false
set_option maxRecDepth 100000
end Go.Proofs.YtlpgbmaoenncjaaGreatDoor

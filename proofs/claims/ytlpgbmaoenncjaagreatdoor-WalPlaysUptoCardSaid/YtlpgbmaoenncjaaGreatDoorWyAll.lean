/-
  What a log's bodies weigh, in plain Lean; what a disk's reading tells of it.
  The two files of a log under saving, crashing and opening, in plain Lean: behind any of them the elder state or the new one is held; without a condition.
  How many bytes a small state's whole and change have, in plain Lean; without a condition.
  A turn of saving, losing the power and opening, in plain Lean: what is held behind it; without a condition.
  Layer 14's law: small, and what it tells.
-/
import Derived.Test.YtlpgbmaoenncjaaGreatDoorWsOne
import Derived.Test.YtlpgbmaoenncjaaGreatDoorDkOne
import Derived.Test.YtlpgbmaoenncjaaGreatDoorWsX
namespace Go.Proofs.YtlpgbmaoenncjaaGreatDoor
open Go.RowKit
set_option linter.unusedVariables false
theorem taken_le:∀ (n:Nat) (l:List UInt8),l.length≤n→taken (bodies l)≤l.length
 | 0,l,h=>by
   rw [List.eq_nil_of_length_eq_zero (Nat.le_zero.1 h),bodies_empty]
   exact Nat.le_refl 0
 | n+1,l,h=>by
   cases ho:oneL l with
   | none=>rw [bodies_none l ho]; exact Nat.zero_le _
   | some b =>
     obtain⟨-,h4,-⟩:=oneL_some ho
     rw [bodies_some l b ho]
     have h1:=taken_le n (l.drop (b.length+12)) (by rw [List.length_drop]; omega)
     rw [List.length_drop] at h1
     unfold taken at h1 ⊢
     rw [List.map_cons,List.sum_cons]
     omega
theorem foldB_size:∀ (l:List ByteArray) (x:ByteArray),(l.foldl (fun o p=>o++p) x).size=x.size+(l.map ByteArray.size).sum
 | [],x=>by simp
 | y :: l,x=>by
   rw [List.foldl_cons,foldB_size l (x++y),ByteArray.size_append,List.map_cons,List.sum_cons]
   omega
theorem joinB_size (l:List ByteArray):(joinB l).size=(l.map ByteArray.size).sum:=by
 unfold joinB
 rw [foldB_size]
 show 0+_=_
 omega
theorem le_sum:∀ (l:List Nat) (x:Nat),x∈l→x≤l.sum
 | [],x,h=>by cases h
 | y :: l,x,h=>by
   rw [List.sum_cons]
   rcases List.mem_cons.1 h with rfl | h
   ·omega
   ·have:=le_sum l x h; omega
theorem bods_sum (r:List (List UInt8)):((r.map strOf).map ByteArray.size).sum+12*r.length=taken r:=by
 unfold taken
 induction r with
 | nil=>rfl
 | cons b r ih=>simp only [List.map_cons,List.sum_cons,List.length_cons,strOf_size] at *; omega
theorem bodsB_small (s:ByteArray):(bodsB s).length≤s.size∧(joinB (bodsB s).tail).size≤s.size∧∀ y∈bodsB s,y.size≤s.size:=by
 have h1:=taken_le _ s.data.toList (Nat.le_refl _)
 have h2:=bods_sum (bodies s.data.toList)
 have h3:s.data.toList.length=s.size:=by rw [Array.length_toList]; rfl
 have h4:(bodsB s).length=(bodies s.data.toList).length:=by unfold bodsB; rw [List.length_map]
 have h5:((bodsB s).map ByteArray.size).sum≤s.size:=by unfold bodsB; omega
 refine⟨by omega,?_,fun y hy=>?_⟩
 ·rw [joinB_size]
  cases hb:bodsB s with
  | nil=>exact Nat.zero_le _
  | cons y r =>
    rw [hb,List.map_cons,List.sum_cons] at h5
    rw [List.tail_cons]
    omega
 ·have:=le_sum _ _ (List.mem_map.2 ⟨y,hy,rfl⟩:y.size∈(bodsB s).map ByteArray.size)
  omega
theorem read_log {d:Dk}(h1:rightD d=true) (h2:d.down=false):readD d logN=if atL d.files logN<0 then (⟨#[]⟩,60) else (logOf d,0):=by
 have hr:readyD d [logN]=0:=by
  unfold readyD
  rw [h1,h2]
  have hn:nmOk logN=true:=by decide +kernel
  simp [hn]
 unfold readD logOf
 rw [hr,if_neg (by decide)]
theorem open_wrong {d:Dk}(h1:rightD d=false):openS d=⟨d,Hd.zero,1⟩:=by unfold openS; rw [if_pos h1]
theorem open_down {d:Dk}(h1:rightD d=true) (h2:d.down=true):openS d=⟨d,Hd.zero,132⟩:=by unfold openS; rw [if_neg (by rw [h1]; decide),if_pos h2]
theorem open_bare {d:Dk}(h1:rightD d=true) (h2:d.down=false) (h3:atL d.files logN<0):openS d=⟨d,Hd.zero,0⟩:=by
 unfold openS; rw [if_neg (by rw [h1]; decide),if_neg (by rw [h2]; decide),if_pos h3]
theorem open_rot {d:Dk}(h1:rightD d=true) (h2:d.down=false) (h3:¬ atL d.files logN<0) (h4:heldS (bodsB (logOf d))=none):openS d=⟨d,Hd.zero,61⟩:=by
 unfold openS; rw [if_neg (by rw [h1]; decide),if_neg (by rw [h2]; decide),if_neg h3,h4]
theorem open_held {d:Dk}(h1:rightD d=true) (h2:d.down=false) (h3:¬ atL d.files logN<0) {h:Hd}(h4:heldS (bodsB (logOf d))=some h) :
 openS d=if taken (bodies (logOf d).data.toList)=(logOf d).size then ⟨d,h,0⟩ else if (anewS d h).2=0 then ⟨(anewS d h).1,h,0⟩ else ⟨(anewS d h).1,Hd.zero,(anewS d h).2⟩:=by
 unfold openS; rw [if_neg (by rw [h1]; decide),if_neg (by rw [h2]; decide),if_neg h3,h4]
end Go.Proofs.YtlpgbmaoenncjaaGreatDoor

namespace Go.Proofs.YtlpgbmaoenncjaaGreatDoor
open Go.RowKit
set_option linter.unusedVariables false
def look (l:List Fl) (nm:ByteArray):Option Fl:=l.find? fun f=>decide (f.nm=nm)
theorem look_cons (f:Fl) (l:List Fl) (nm:ByteArray):look (f :: l) nm=if f.nm=nm then some f else look l nm:=by
 unfold look
 rw [List.find?_cons]
 by_cases h:f.nm=nm <;> simp [h]
theorem look_nm {l:List Fl}{nm:ByteArray}{f:Fl}(h:look l nm=some f):f.nm=nm:=by
 have:=List.find?_some h
 simpa using this
theorem look_insF (x:Fl) (nm:ByteArray):∀ l:List Fl,(∀ f∈l,f.nm≠x.nm)→look (insF x l) nm=if x.nm=nm then some x else look l nm
 | [],_=>by rw [insF,look_cons]
 | f :: r,h=>by
   rw [insF]
   split
   ·rw [look_cons]
   ·rw [look_cons,look_insF x nm r (fun g hg=>h g (List.mem_cons_of_mem _ hg)),look_cons]
    by_cases h1:f.nm=nm
    ·rw [if_pos h1,if_neg (fun e=>h f (List.mem_cons_self ..) (h1.trans e.symm)),if_pos h1]
    ·rw [if_neg h1,if_neg h1]
theorem look_without (a nm:ByteArray):∀ l:List Fl,look (without l a) nm=if a=nm then none else look l nm
 | []=>by unfold look without; simp
 | f :: r=>by
   have ih:=look_without a nm r
   unfold without at ih ⊢
   rw [List.filter_cons]
   by_cases h1:f.nm=a
   ·rw [if_neg (by simpa using h1),ih,look_cons]
    by_cases h2:a=nm
    ·rw [if_pos h2,if_pos h2]
    ·rw [if_neg h2,if_neg h2,if_neg (by rw [h1]; exact h2)]
   ·rw [if_pos (by simpa using h1),look_cons,ih,look_cons]
    by_cases h2:f.nm=nm
    ·rw [if_pos h2,if_pos h2,if_neg (by intro e; exact h1 (h2.trans e.symm))]
    ·rw [if_neg h2,if_neg h2]
theorem look_with (l:List Fl) (x:Fl) (nm:ByteArray):look (withF l x) nm=if x.nm=nm then some x else look l nm:=by
 unfold withF
 rw [look_insF x nm _ without_ne,look_without]
 by_cases h:x.nm=nm
 ·rw [if_pos h,if_pos h]
 ·rw [if_neg h,if_neg h,if_neg h]
theorem look_from (nm:ByteArray):∀ (l:List Fl) (i:Nat),(look l nm=none∧atFrom nm l i = -1)∨(∃ (k:Nat) (h:k<l.length),look l nm=some l[k]∧atFrom nm l i=((i+k:Nat):Int))
 | [],i=>.inl ⟨rfl,rfl⟩
 | f :: r,i=>by
   rw [look_cons,atFrom]
   by_cases h:f.nm=nm
   ·exact .inr ⟨0,by simp,by rw [if_pos h]; rfl,by rw [if_pos h]; rfl⟩
   ·rw [if_neg h,if_neg h]
    rcases look_from nm r (i+1) with ⟨h1,h2⟩ | ⟨k,hk,h1,h2⟩
    ·exact .inl ⟨h1,h2⟩
    ·exact .inr ⟨k+1,by simpa using hk,by simpa using h1,by rw [h2]; congr 1; omega⟩
def fileO (nm:ByteArray) (o:Option Fl):Fl:=o.getD ⟨nm,noB,noB⟩
theorem atL_look (l:List Fl) (nm:ByteArray):(atL l nm<0↔look l nm=none)∧fileOf l nm=fileO nm (look l nm):=by
 unfold fileOf atL
 rcases look_from nm l 0 with ⟨h1,h2⟩ | ⟨k,hk,h1,h2⟩
 ·rw [h1,h2]; exact⟨⟨fun _=>rfl,fun _=>by decide⟩,rfl⟩
 ·rw [h1,h2]
  refine⟨⟨fun h=>by omega,fun h=>by cases h⟩,?_⟩
  rw [if_pos (by omega)]
  simp [hk,fileO]
theorem look_crashF (keep:List Int) (nm:ByteArray):∀ (i:Nat) (l:List Fl),(look l nm=none∧look (crashF keep i l) nm=none)∨(∃ (f:Fl) (k:Nat),look l nm=some f∧look (crashF keep i l) nm=some ⟨f.nm,f.sy++f.ta.extract 0 k,noB⟩)
 | _,[]=>.inl ⟨rfl,rfl⟩
 | i,f :: r=>by
   rw [crashF,look_cons,look_cons]
   dsimp only
   by_cases h:f.nm=nm
   ·rw [if_pos h,if_pos h]; exact .inr ⟨f,_,rfl,rfl⟩
   ·rw [if_neg h,if_neg h]; exact look_crashF keep nm (i+1) r
def Two (l:List Fl):Prop:=∀ f∈l,f.nm=logN∨f.nm=newN
def szO:Option Fl→Nat
 | none=>0
 | some f=>f.sy.size+f.ta.size
theorem szO_none:szO none=0:=rfl
theorem szO_some (f:Fl):szO (some f)=f.sy.size+f.ta.size:=rfl
theorem nm_ne:logN≠newN:=by decide +kernel
theorem nm_lt:ltN newN logN=false:=by decide +kernel
theorem two_size {l:List Fl}(hr:Rising l) (ht:Two l):szS l=szO (look l logN)+szO (look l newN)∧l.length≤2:=by
 have hne:=nm_ne
 match l,hr,ht with
 | [],_,_=>exact⟨rfl,by simp⟩
 | [f],_,ht =>
   rw [look_cons,look_cons,szS_cons]
   rcases ht f (List.mem_cons_self ..) with h | h
   ·rw [if_pos h,if_neg (by rw [h]; exact hne)]; exact⟨by simp [szS,szO,look],by simp⟩
   ·rw [if_neg (by rw [h]; exact hne.symm),if_pos h]; exact⟨by simp [szS,szO,look],by simp⟩
 | [f,g],hr,ht =>
   have hlt:=List.pairwise_iff_getElem.1 hr 0 1 (by simp) (by simp) (by decide)
   simp only [List.getElem_cons_zero,List.getElem_cons_succ] at hlt
   have hl:=nm_lt
   have hi:=ltN_irrefl
   have h2:=ht g (List.mem_cons_of_mem _ (List.mem_cons_self ..))
   rcases ht f (List.mem_cons_self ..) with h | h
   ·rcases h2 with k | k
    ·rw [h,k,hi] at hlt; cases hlt
    ·rw [look_cons,look_cons,look_cons,look_cons,if_pos h,if_neg (by rw [h]; exact hne),if_pos k,szS_cons,szS_cons]
     exact⟨by simp [szS,szO],by simp⟩
   ·rcases h2 with k | k
    ·rw [h,k,hl] at hlt; cases hlt
    ·rw [h,k,hi] at hlt; cases hlt
 | f :: g :: h :: r,hr,ht =>
   exfalso
   have h1:=List.pairwise_iff_getElem.1 hr 0 1 (by simp) (by simp) (by decide)
   have h2:=List.pairwise_iff_getElem.1 hr 1 2 (by simp) (by simp) (by decide)
   simp only [List.getElem_cons_zero,List.getElem_cons_succ] at h1 h2
   have hl:=nm_lt
   have hi:=ltN_irrefl
   rcases ht f (by simp) with a | a <;> rcases ht g (by simp) with b | b <;> rcases ht h (by simp) with c | c <;> simp_all
theorem two_with {l:List Fl}(h:Two l) {x:Fl}(hx:x.nm=logN∨x.nm=newN):Two (withF l x):=fun f hf=>by
 rcases mem_with hf with rfl | hf
 ·exact hx
 ·exact h f hf
theorem two_without {l:List Fl}(h:Two l) (nm:ByteArray):Two (without l nm):=fun f hf=>h f (List.mem_filter.1 hf).1
theorem two_crash {l:List Fl}(h:Two l) (keep:List Int) (i:Nat):Two (crashF keep i l):=fun f hf=>by
 have h1:f.nm∈(crashF keep i l).map (·.nm):=List.mem_map_of_mem hf
 rw [crashF_nm] at h1
 obtain⟨g,hg,he⟩:=List.mem_map.1 h1
 rw [← he]
 exact h g hg
structure St (d:Dk) (rm:Int) (lg nw:Option Fl) (lf:Int):Prop where
 right:rightD d=true
 up:d.down=false
 room:d.room=rm
 two:Two d.files
 lg:look d.files logN=lg
 nw:look d.files newN=nw
 left:d.left=lf
structure Dn (d:Dk) (rm:Int) (lg nw:Option Fl):Prop where
 right:rightD d=true
 room:d.room=rm
 two:Two d.files
 lg:look d.files logN=lg
 nw:look d.files newN=nw
def leftI (lf:Int):Int:=if 0<lf then lf - 1 else lf
theorem St.dn {d:Dk}{rm:Int}{lg nw:Option Fl}{lf:Int}(h:St d rm lg nw lf):Dn d rm lg nw:=⟨h.right,h.room,h.two,h.lg,h.nw⟩
theorem St.size {d:Dk}{rm:Int}{lg nw:Option Fl}{lf:Int}(h:St d rm lg nw lf):(szL d.files:Int)=(szO lg+szO nw:Nat)∧d.files.length≤2:=by
 obtain⟨h1,h2⟩:=rightD_size h.right
 obtain⟨h3,h4⟩:=two_size (rightD_fs h.right).2 h.two
 rw [h.lg,h.nw] at h3
 exact⟨by omega,h4⟩
theorem Dn.size {d:Dk}{rm:Int}{lg nw:Option Fl}(h:Dn d rm lg nw):((szO lg+szO nw:Nat):Int)≤rm:=by
 obtain⟨h1,h2⟩:=rightD_size h.right
 obtain⟨h3,h4⟩:=two_size (rightD_fs h.right).2 h.two
 rw [h.lg,h.nw] at h3
 have:=h.room
 omega
theorem St.ready {d:Dk}{rm:Int}{lg nw:Option Fl}{lf:Int}(h:St d rm lg nw lf) {nms:List ByteArray}(hn:nms.all nmOk=true):readyD d nms=0:=by
 unfold readyD
 rw [h.right,h.up,hn]
 simp
def Did (x:Dk × Int) (rm:Int) (lg nw lg2 nw2:Option Fl) (lf:Int):Prop :=
 (lf=0∧x.2=132∧Dn x.1 rm lg2 nw2)∨(lf≠0∧x.2=0∧St x.1 rm lg nw (leftI lf))
theorem done_did {d:Dk}{rm:Int}{lg nw:Option Fl}{lf:Int}(h:St d rm lg nw lf) {now thn:List Fl}{lg1 nw1 lg2 nw2:Option Fl}(hr:rightD (doneD d now thn).1=true) (t1:Two now) (t2:Two thn)
 (h1:look now logN=lg1) (h2:look now newN=nw1) (h3:look thn logN=lg2) (h4:look thn newN=nw2):Did (doneD d now thn) rm lg1 nw1 lg2 nw2 lf:=by
 have hl:=h.left
 unfold doneD at hr ⊢
 unfold Did
 by_cases h0:d.left=0
 ·rw [if_pos h0] at hr ⊢
  exact .inl ⟨by omega,rfl,hr,h.room,t2,h3,h4⟩
 ·rw [if_neg h0] at hr ⊢
  refine .inr ⟨by omega,rfl,hr,h.up,h.room,t1,h1,h2,?_⟩
  show leftD d=leftI lf
  unfold leftD leftI
  rw [hl]
theorem nil_app (a:ByteArray):noB++a=a:=by
 apply ba_ext
 simp [noB]
theorem stWriteNew {d:Dk}{rm:Int}{lg:Option Fl}{lf:Int}(h:St d rm lg none lf) (more:ByteArray) :
 ((writeD d newN more).2=130∧rm<(szO lg:Int)+more.size)∨((szO lg:Int)+more.size≤rm∧Did (writeD d newN more) rm lg (some ⟨newN,noB,more⟩) lg (some ⟨newN,noB,more⟩) lf):=by
 have hw:=write_right (d:=d) (nm:=newN) (more:=more)
 obtain⟨hs,hl⟩:=h.size
 have hrm:=h.room
 unfold writeD at hw ⊢
 rw [h.ready (by decide +kernel),if_neg (by decide)] at hw ⊢
 simp only [szO_none] at hs
 by_cases hf:d.room - (szL d.files:Int)<(more.size:Int)
 ·rw [if_pos (.inr hf)]
  exact .inl ⟨rfl,by omega⟩
 ·rw [if_neg (by omega)] at hw ⊢
  refine .inr ⟨by omega,?_⟩
  have hwr:wrote d.files newN more=withF d.files ⟨newN,noB,more⟩:=by
   unfold wrote
   rw [(atL_look d.files newN).2,h.nw]
   show withF d.files ⟨newN,noB,noB++more⟩=_
   rw [nil_app]
  rw [hwr] at hw ⊢
  have t1:=two_with h.two (x:=⟨newN,noB,more⟩) (.inr rfl)
  have k1:look (withF d.files ⟨newN,noB,more⟩) logN=lg:=by rw [look_with,if_neg nm_ne.symm]; exact h.lg
  have k2:look (withF d.files ⟨newN,noB,more⟩) newN=some ⟨newN,noB,more⟩:=by rw [look_with,if_pos rfl]
  exact done_did h hw t1 t1 k1 k2 k1 k2
theorem stWriteLog {d:Dk}{rm:Int}{c:ByteArray}{nw:Option Fl}{lf:Int}(h:St d rm (some ⟨logN,c,noB⟩) nw lf) (more:ByteArray) :
 ((writeD d logN more).2=130∧rm<(c.size:Int)+szO nw+more.size)∨((c.size:Int)+szO nw+more.size≤rm∧Did (writeD d logN more) rm (some ⟨logN,c,more⟩) nw (some ⟨logN,c,more⟩) nw lf):=by
 have hw:=write_right (d:=d) (nm:=logN) (more:=more)
 obtain⟨hs,hl⟩:=h.size
 have hrm:=h.room
 have hz:noB.size=0:=rfl
 unfold writeD at hw ⊢
 rw [h.ready (by decide +kernel),if_neg (by decide)] at hw ⊢
 simp only [szO_some] at hs
 by_cases hf:d.room - (szL d.files:Int)<(more.size:Int)
 ·rw [if_pos (.inr hf)]
  exact .inl ⟨rfl,by omega⟩
 ·rw [if_neg (by omega)] at hw ⊢
  refine .inr ⟨by omega,?_⟩
  have hwr:wrote d.files logN more=withF d.files ⟨logN,c,more⟩:=by
   unfold wrote
   rw [(atL_look d.files logN).2,h.lg]
   show withF d.files ⟨logN,c,noB++more⟩=_
   rw [nil_app]
  rw [hwr] at hw ⊢
  have t1:=two_with h.two (x:=⟨logN,c,more⟩) (.inl rfl)
  have k1:look (withF d.files ⟨logN,c,more⟩) newN=nw:=by rw [look_with,if_neg nm_ne]; exact h.nw
  have k2:look (withF d.files ⟨logN,c,more⟩) logN=some ⟨logN,c,more⟩:=by rw [look_with,if_pos rfl]
  exact done_did h hw t1 t1 k2 k1 k2 k1
theorem stSyncNew {d:Dk}{rm:Int}{lg:Option Fl}{s t:ByteArray}{lf:Int}(h:St d rm lg (some ⟨newN,s,t⟩) lf) :
 Did (syncD d newN) rm lg (some ⟨newN,s++t,noB⟩) lg (some ⟨newN,s,t⟩) lf:=by
 have hw:=sync_right (d:=d) (nm:=newN)
 unfold syncD at hw ⊢
 have ha:=atL_look d.files newN
 rw [h.nw] at ha
 rw [h.ready (by decide +kernel),if_neg (by decide),if_neg (by rw [ha.1]; simp)] at hw ⊢
 have e:synced d.files newN=withF d.files ⟨newN,s++t,noB⟩:=by unfold synced; rw [ha.2]; rfl
 rw [e] at hw ⊢
 exact done_did h hw (two_with h.two (.inr rfl)) h.two (by rw [look_with,if_neg nm_ne.symm]; exact h.lg) (by rw [look_with,if_pos rfl]) h.lg h.nw
theorem stSyncLog {d:Dk}{rm:Int}{nw:Option Fl}{s t:ByteArray}{lf:Int}(h:St d rm (some ⟨logN,s,t⟩) nw lf) :
 Did (syncD d logN) rm (some ⟨logN,s++t,noB⟩) nw (some ⟨logN,s,t⟩) nw lf:=by
 have hw:=sync_right (d:=d) (nm:=logN)
 unfold syncD at hw ⊢
 have ha:=atL_look d.files logN
 rw [h.lg] at ha
 rw [h.ready (by decide +kernel),if_neg (by decide),if_neg (by rw [ha.1]; simp)] at hw ⊢
 have e:synced d.files logN=withF d.files ⟨logN,s++t,noB⟩:=by unfold synced; rw [ha.2]; rfl
 rw [e] at hw ⊢
 exact done_did h hw (two_with h.two (.inl rfl)) h.two (by rw [look_with,if_pos rfl]) (by rw [look_with,if_neg nm_ne]; exact h.nw) h.lg h.nw
theorem stRenameNew {d:Dk}{rm:Int}{lg:Option Fl}{s:ByteArray}{lf:Int}(h:St d rm lg (some ⟨newN,s,noB⟩) lf) :
 Did (renameD d newN logN) rm (some ⟨logN,s,noB⟩) none lg (some ⟨newN,s,noB⟩) lf:=by
 have hw:=@rename_right d newN logN
 unfold renameD at hw ⊢
 have ha:=atL_look d.files newN
 rw [h.nw] at ha
 rw [h.ready (by decide +kernel),if_neg (by decide),if_neg (by rw [ha.1]; simp),if_neg (by rw [ha.2]; exact fun h=>h rfl)] at hw ⊢
 have e:renamed d.files newN logN=withF (without d.files newN) ⟨logN,s,noB⟩:=by unfold renamed; rw [ha.2]; rfl
 rw [e] at hw ⊢
 exact done_did h hw (two_with (two_without h.two _) (.inl rfl)) h.two (by rw [look_with,if_pos rfl]) (by rw [look_with,if_neg nm_ne,look_without,if_pos rfl]) h.lg h.nw
theorem stRemoveNew {d:Dk}{rm:Int}{lg:Option Fl}{f:Fl}{lf:Int}(h:St d rm lg (some f) lf) :
 Did (removeD d newN) rm lg none lg (some f) lf:=by
 have hw:=remove_right (d:=d) (nm:=newN)
 unfold removeD at hw ⊢
 have ha:=atL_look d.files newN
 rw [h.nw] at ha
 rw [h.ready (by decide +kernel),if_neg (by decide),if_neg (by rw [ha.1]; simp)] at hw ⊢
 exact done_did h hw (two_without h.two _) h.two (by rw [look_without,if_neg nm_ne.symm]; exact h.lg) (by rw [look_without,if_pos rfl]) h.lg h.nw
theorem call_did {d:Dk}{what:Int}{nm more:ByteArray}{rm:Int}{lg nw lg2 nw2:Option Fl}{lf:Int}(h:Did (callK d what nm more) rm lg nw lg2 nw2 lf):callS d what nm more=callK d what nm more:=by
 unfold callS
 rw [if_pos]
 rcases h with h | h
 ·exact .inr h.2.1
 ·exact .inl h.2.1
theorem steps_cons (d:Dk) (s:Stp) (r:List Stp):stepsS d (s :: r)=if (callS d s.what s.nm s.more).2=0 then stepsS (callS d s.what s.nm s.more).1 r else callS d s.what s.nm s.more:=rfl
theorem leftI_neg {lf:Int}:(lf = -1→leftI lf = -1):=fun e=>by subst e; rfl
def AnewOut (x:Dk × Int) (rm:Int) (lg:Option Fl) (nw:Option Fl) (W:ByteArray) (lf:Int):Prop :=
 (x.2=0∧∃ lf',(lf = -1→lf' = -1)∧St x.1 rm (some ⟨logN,W,noB⟩) none lf') ∨
 (x.2=132∧lf ≠ -1∧∃ nw',Dn x.1 rm lg nw'∧szO nw'≤max (szO nw) W.size) ∨
 (x.2=130∧rm<(szO lg:Int)+W.size∧∃ nw' lf',St x.1 rm lg nw' lf')
theorem stThree {d:Dk}{rm:Int}{lg:Option Fl}{lf:Int}(h:St d rm lg none lf) (H:Hd):AnewOut (stepsS d (threeS H)) rm lg none (wholeB (putH H).1) lf:=by
 generalize hW:wholeB (putH H).1=W
 have hz:noB.size=0:=rfl
 unfold threeS AnewOut
 rw [hW,steps_cons]
 dsimp only
 rcases stWriteNew h W with ⟨h1,h2⟩ | ⟨h1,h2⟩
 ·have e:callS d 1 newN W=(d,130):=by
   unfold callS
   show (if (writeD d newN W).2=0∨(writeD d newN W).2=132 then _ else (d,(writeD d newN W).2))=_
   rw [h1]; rfl
  rw [e,if_neg (show ¬ ((d,(130:Int)).2=0) from fun h=>absurd h (show ¬ ((130:Int)=0) by decide))]
  exact .inr (.inr ⟨rfl,h2,_,_,h⟩)
 ·have h2:Did (callK d 1 newN W) rm lg (some ⟨newN,noB,W⟩) lg (some ⟨newN,noB,W⟩) lf:=h2
  rw [call_did h2]
  rcases h2 with ⟨k1,k2,k3⟩ | ⟨k1,k2,k3⟩
  ·rw [if_neg (by rw [k2]; decide)]
   exact .inr (.inl ⟨k2,by omega,_,k3,by simp only [szO_none,szO_some]; omega⟩)
  ·rw [if_pos k2,steps_cons]
   dsimp only
   generalize (callK d 1 newN W).1=d1 at k3 ⊢
   have g2:Did (callK d1 2 newN noB) rm lg (some ⟨newN,noB++W,noB⟩) lg (some ⟨newN,noB,W⟩) (leftI lf):=stSyncNew k3
   rw [call_did g2]
   rw [nil_app] at g2
   have q1:lf = -1→leftI lf = -1:=leftI_neg
   rcases g2 with ⟨l1,l2,l3⟩ | ⟨l1,l2,l3⟩
   ·rw [if_neg (by rw [l2]; decide)]
    exact .inr (.inl ⟨l2,fun e=>by have:=q1 e; omega,_,l3,by simp only [szO_none,szO_some]; omega⟩)
   ·rw [if_pos l2,steps_cons]
    dsimp only
    generalize (callK d1 2 newN noB).1=d2 at l3 ⊢
    have g3:Did (callK d2 3 newN logN) rm (some ⟨logN,W,noB⟩) none lg (some ⟨newN,W,noB⟩) (leftI (leftI lf)):=stRenameNew l3
    rw [call_did g3]
    have q2:lf = -1→leftI (leftI lf) = -1:=fun e=>by rw [leftI_neg e]; rfl
    rcases g3 with ⟨m1,m2,m3⟩ | ⟨m1,m2,m3⟩
    ·rw [if_neg (by rw [m2]; decide)]
     exact .inr (.inl ⟨m2,fun e=>by have:=q2 e; omega,_,m3,by simp only [szO_none,szO_some]; omega⟩)
    ·rw [if_pos m2]
     exact .inl ⟨rfl,_,fun e=>by rw [q2 e]; rfl,m3⟩
theorem anew_out {d:Dk}{rm:Int}{lg nw:Option Fl}{lf:Int}(h:St d rm lg nw lf) (H:Hd):AnewOut (anewS d H) rm lg nw (wholeB (putH H).1) lf:=by
 unfold anewS
 have ha:=(atL_look d.files newN).1
 rw [h.nw] at ha
 cases nw with
 | none =>
   rw [if_pos (ha.2 rfl)]
   exact stThree h H
 | some f =>
   rw [if_neg (by rw [ha]; simp),steps_cons]
   dsimp only
   have g:Did (callK d 4 newN noB) rm lg none lg (some f) lf:=stRemoveNew h
   rw [call_did g]
   rcases g with ⟨k1,k2,k3⟩ | ⟨k1,k2,k3⟩
   ·rw [if_neg (by rw [k2]; decide)]
    exact .inr (.inl ⟨k2,by omega,_,k3,by omega⟩)
   ·rw [if_pos k2]
    have q1:lf = -1→leftI lf = -1:=leftI_neg
    have hz:szO none=0:=rfl
    rcases stThree k3 H with ⟨a,lf',b,c⟩ | ⟨a,b,nw',c,e⟩ | ⟨a,b,c⟩
    ·exact .inl ⟨a,lf',fun e=>b (q1 e),c⟩
    ·exact .inr (.inl ⟨a,fun e=>b (q1 e),nw',c,by omega⟩)
    ·exact .inr (.inr ⟨a,b,c⟩)
def Holds (lg:Option Fl) (h:Hd):Prop:=(lg=none∧h=Hd.zero)∨(∃ c,lg=some ⟨logN,c,noB⟩∧LogIs c.data.toList h)
def SaveOut (x:Dk × Int) (rm:Int) (lg nw:Option Fl) (old now:Hd) (B:Nat) (lf:Int):Prop :=
 (x.2=0∧∃ c nw' lf',(lf = -1→lf' = -1)∧St x.1 rm (some ⟨logN,c,noB⟩) nw' lf'∧LogIs c.data.toList now∧c.size≤szO lg+B∧szO nw'≤szO nw) ∨
 (x.2=132∧lf ≠ -1∧∃ lg' nw',Dn x.1 rm lg' nw'∧szO nw'≤max (szO nw) B∧(lg'=lg∨∃ c g,lg=some ⟨logN,c,noB⟩∧lg'=some ⟨logN,c,frameOf g⟩∧putGot (changeV old now)=(g,0)∧g.size≤65536∧alikeH old now)) ∨
 (x.2=130∧rm<(szO lg:Int)+szO nw+B∧∃ nw' lf',St x.1 rm lg nw' lf')
theorem anew_save {x:Dk × Int}{rm:Int}{lg nw:Option Fl}{lf:Int}{old now:Hd}{B:Nat}(hr:rightH now=true) (hB:(wholeB (putH now).1).size≤B) (h:AnewOut x rm lg nw (wholeB (putH now).1) lf):SaveOut x rm lg nw old now B lf:=by
 have hw:=whole_log hr
 have hz:szO none=0:=rfl
 rcases h with ⟨a,lf',b,c⟩ | ⟨a,b,nw',c,e⟩ | ⟨a,b,nw',lf',c⟩
 ·exact .inl ⟨a,_,_,lf',b,c,hw,by omega,by omega⟩
 ·exact .inr (.inl ⟨a,b,lg,nw',c,by omega,.inl rfl⟩)
 ·exact .inr (.inr ⟨a,by omega,nw',lf',c⟩)
theorem append_save {d:Dk}{rm:Int}{c:ByteArray}{nw:Option Fl}{lf:Int}{old now:Hd}{B:Nat}(h:St d rm (some ⟨logN,c,noB⟩) nw lf) (hl:LogIs c.data.toList old) (hr:rightH now=true) (ha:alikeH old now) {g:ByteArray}(hg:putGot (changeV old now)=(g,0)) (hz:g.size≤65536) (hB:g.size+12≤B) :
 SaveOut (appendS d g) rm (some ⟨logN,c,noB⟩) nw old now B lf:=by
 have hf:=frameOf_size g
 have h0:noB.size=0:=rfl
 unfold appendS
 rw [steps_cons]
 dsimp only
 rcases stWriteLog h (frameOf g) with ⟨h1,h2⟩ | ⟨h1,h2⟩
 ·have e:callS d 1 logN (frameOf g)=(d,130):=by
   unfold callS
   show (if (writeD d logN (frameOf g)).2=0∨(writeD d logN (frameOf g)).2=132 then _ else (d,(writeD d logN (frameOf g)).2))=_
   rw [h1]; rfl
  rw [e,if_neg (show ¬ ((d,(130:Int)).2=0) from fun h=>absurd h (show ¬ ((130:Int)=0) by decide))]
  exact .inr (.inr ⟨rfl,by simp only [szO_some]; omega,_,_,h⟩)
 ·have h2:Did (callK d 1 logN (frameOf g)) rm (some ⟨logN,c,frameOf g⟩) nw (some ⟨logN,c,frameOf g⟩) nw lf:=h2
  rw [call_did h2]
  rcases h2 with ⟨k1,k2,k3⟩ | ⟨k1,k2,k3⟩
  ·rw [if_neg (by rw [k2]; decide)]
   exact .inr (.inl ⟨k2,by omega,_,_,k3,by omega,.inr ⟨c,g,rfl,rfl,hg,hz,ha⟩⟩)
  ·rw [if_pos k2,steps_cons]
   dsimp only
   generalize (callK d 1 logN (frameOf g)).1=d1 at k3 ⊢
   have g2:Did (callK d1 2 logN noB) rm (some ⟨logN,c++frameOf g,noB⟩) nw (some ⟨logN,c,frameOf g⟩) nw (leftI lf):=stSyncLog k3
   rw [call_did g2]
   have q1:lf = -1→leftI lf = -1:=leftI_neg
   rcases g2 with ⟨l1,l2,l3⟩ | ⟨l1,l2,l3⟩
   ·rw [if_neg (by rw [l2]; decide)]
    exact .inr (.inl ⟨l2,fun e=>by have:=q1 e; omega,_,_,l3,by omega,.inr ⟨c,g,rfl,rfl,hg,hz,ha⟩⟩)
   ·rw [if_pos l2]
    refine .inl ⟨rfl,_,nw,_,fun e=>by rw [q1 e]; rfl,l3,?_,?_,Nat.le_refl _⟩
    ·rw [appl,frameOf_list]
     exact change_log hl hr ha hg hz
    ·rw [append_size]
     simp only [szO_some]
     omega
theorem save_out {d:Dk}{rm:Int}{lg nw:Option Fl}{lf:Int}{old now:Hd}{B:Nat}(h:St d rm lg nw lf) (hl:Holds lg old) (ho:rightH old=true) (hr:rightH now=true) (hB:(wholeB (putH now).1).size≤B) (hG:∀ g,putGot (changeV old now)=(g,0)→g.size+12≤B) :
 SaveOut (saveS d old now) rm lg nw old now B lf:=by
 unfold saveS
 rw [if_neg (by rw [h.right,ho,hr]; simp),if_neg (by rw [h.up]; simp)]
 unfold goS
 have ha:=(atL_look d.files logN).1
 rw [h.lg] at ha
 rcases hl with ⟨rfl,rfl⟩ | ⟨c,rfl,hc⟩
 ·rw [if_pos (.inl (ha.2 rfl))]
  exact anew_save hr hB (anew_out h now)
 ·have hat:¬ atL d.files logN<0:=by rw [ha]; simp
  by_cases hal:alikeH old now
  ·rw [if_neg (fun e=>e.elim hat (fun k=>k hal))]
   split
   ·rename_i hs
    have:old=now:=by
     obtain⟨a1,a2,a3,a4⟩:=hal
     have h5:=(sameN_all old.recs now.recs).1 ⟨hs.2.2.1,hs.2.2.2⟩
     obtain⟨b1,b2,-⟩:=hs
     cases old; cases now
     simp only at *
     subst a1 a2 a3 a4 b1 b2 h5
     rfl
    subst this
    exact .inl ⟨rfl,c,nw,lf,fun e=>e,h,hc,by simp only [szO_some]; omega,Nat.le_refl _⟩
   ·split
    ·exact anew_save hr hB (anew_out h now)
    ·rename_i hg
     have hg2:(putGot (changeV old now)).2=0:=Classical.byContradiction fun e=>hg (.inl e)
     have hg3:¬ 65536<(putGot (changeV old now)).1.size:=fun e=>hg (.inr e)
     generalize hx:putGot (changeV old now)=x at *
     obtain⟨g,e⟩:=x
     simp only at hg2
     subst hg2
     exact append_save h hc hr hal hx (by omega) (hG g rfl)
  ·rw [if_pos (.inr hal)]
   exact anew_save hr hB (anew_out h now)
def After (lg:Option Fl) (h:Hd):Prop:=(lg=none∧h=Hd.zero)∨(∃ c,lg=some ⟨logN,c,noB⟩∧∃ a t:List UInt8,c.data.toList=a++t∧LogIs a h∧bodies t=[])
theorem Holds.after {lg:Option Fl}{h:Hd}(H:Holds lg h):After lg h:=by
 rcases H with H | ⟨c,h1,h2⟩
 ·exact .inl H
 ·exact .inr ⟨c,h1,_,[],by simp,h2,rfl⟩
theorem extract_noB (k:Nat):noB.extract 0 k=noB:=by
 apply ba_ext
 rw [extr_list]
 simp [noB]
theorem app_noB (a:ByteArray):a++noB=a:=append_nil a
theorem crash_dn {d:Dk}{rm:Int}{lg nw:Option Fl}(h:Dn d rm lg nw) (keep:List Int):∃ lg' nw',St (crashed d keep) rm lg' nw' (-1)∧szO lg'≤szO lg∧szO nw'≤szO nw ∧
 ((lg=none∧lg'=none)∨(∃ f k,lg=some f∧lg'=some ⟨logN,f.sy++f.ta.extract 0 k,noB⟩)):=by
 have h1:=look_crashF keep logN 0 d.files
 have h2:=look_crashF keep newN 0 d.files
 rw [h.lg] at h1
 rw [h.nw] at h2
 have hz:∀ (f:Fl) (k:Nat),(f.sy++f.ta.extract 0 k).size+noB.size≤f.sy.size+f.ta.size:=fun f k=>by
  rw [append_size,ByteArray.size_extract]
  have h0:noB.size=0:=rfl
  omega
 refine⟨look (crashed d keep).files logN,look (crashed d keep).files newN,⟨crash_right h.right keep,rfl,h.room,two_crash h.two keep 0,rfl,rfl,rfl⟩,?_,?_,?_⟩
 ·rcases h1 with ⟨a,b⟩ | ⟨f,k,a,b⟩
  ·show szO (look (crashF keep 0 d.files) logN)≤_; rw [b]; exact Nat.zero_le _
  ·show szO (look (crashF keep 0 d.files) logN)≤_; rw [b,a]; exact hz f k
 ·rcases h2 with ⟨a,b⟩ | ⟨f,k,a,b⟩
  ·show szO (look (crashF keep 0 d.files) newN)≤_; rw [b]; exact Nat.zero_le _
  ·show szO (look (crashF keep 0 d.files) newN)≤_; rw [b,a]; exact hz f k
 ·rcases h1 with ⟨a,b⟩ | ⟨f,k,a,b⟩
  ·exact .inl ⟨a,b⟩
  ·refine .inr ⟨f,k,a,?_⟩
   show look (crashF keep 0 d.files) logN=_
   have hn:=look_nm (a ▸ h.lg)
   rw [b,hn]
theorem crash_holds {d:Dk}{rm:Int}{lg nw:Option Fl}{old:Hd}(h:Dn d rm lg nw) (hl:Holds lg old) (keep:List Int):∃ lg' nw',St (crashed d keep) rm lg' nw' (-1)∧szO lg'≤szO lg∧szO nw'≤szO nw∧After lg' old:=by
 obtain⟨lg',nw',h1,h2,h3,h4⟩:=crash_dn h keep
 refine⟨lg',nw',h1,h2,h3,?_⟩
 rcases hl with ⟨rfl,rfl⟩ | ⟨c,rfl,hc⟩
 ·rcases h4 with ⟨-,e⟩ | ⟨f,k,e,-⟩
  ·exact .inl ⟨e,rfl⟩
  ·cases e
 ·rcases h4 with ⟨e,-⟩ | ⟨f,k,e,e2⟩
  ·cases e
  ·cases e
   rw [extract_noB,app_noB] at e2
   exact Holds.after (.inr ⟨c,e2,hc⟩)
theorem crash_torn {d:Dk}{rm:Int}{c g:ByteArray}{nw:Option Fl}{old now:Hd}(h:Dn d rm (some ⟨logN,c,frameOf g⟩) nw) (hl:LogIs c.data.toList old) (hr:rightH now=true) (ha:alikeH old now) (hg:putGot (changeV old now)=(g,0)) (hz:g.size≤65536) (keep:List Int) :
 ∃ lg' nw',St (crashed d keep) rm lg' nw' (-1)∧szO lg'≤c.size+(g.size+12)∧szO nw'≤szO nw∧(After lg' old∨After lg' now):=by
 obtain⟨lg',nw',h1,h2,h3,h4⟩:=crash_dn h keep
 have hf:=frameOf_size g
 refine⟨lg',nw',h1,by simp only [szO_some] at h2; omega,h3,?_⟩
 rcases h4 with ⟨e,-⟩ | ⟨f,k,e,e2⟩
 ·cases e
 ·cases e
  dsimp only at e2
  have hl2:(c++(frameOf g).extract 0 k).data.toList=c.data.toList++(frameL g.data.toList).take k:=by
   rw [appl,extr_list,frameOf_list,List.drop_zero]
  by_cases hk:k<g.size+12
  ·exact .inl (.inr ⟨_,e2,_,_,hl2,hl,bodies_torn _ (by simpa using hz) k (by simpa using hk)⟩)
  ·refine .inr (Holds.after (.inr ⟨_,e2,?_⟩))
   rw [hl2,List.take_of_length_le (by rw [frameL_length]; simp; omega)]
   exact change_log hl hr ha hg hz
theorem open_after {d:Dk}{rm:Int}{lg nw:Option Fl}{h:Hd}(H:St d rm lg nw (-1)) (hl:After lg h) (hB:(szO lg:Int)+(wholeB (putH h).1).size≤rm) :
 ∃ d' lg' nw',openS d=⟨d',h,0⟩∧St d' rm lg' nw' (-1)∧Holds lg' h∧szO lg'≤max (szO lg) (wholeB (putH h).1).size∧szO nw'≤szO nw:=by
 obtain⟨ha,hf⟩:=atL_look d.files logN
 rw [H.lg] at ha hf
 rcases hl with ⟨rfl,rfl⟩ | ⟨c,rfl,a,t,h1,h2,h3⟩
 ·exact⟨d,none,nw,open_bare H.right H.up (ha.2 rfl),H,.inl ⟨rfl,rfl⟩,by omega,Nat.le_refl _⟩
 ·have hat:¬ atL d.files logN<0:=by rw [ha]; simp
  have hlog:logOf d=c:=by
   unfold logOf
   rw [hf]
   exact app_noB c
  obtain⟨k1,k2⟩:=log_opens h2 t h3
  have hheld:heldS (bodsB (logOf d))=some h:=by
   unfold bodsB
   rw [hlog,h1]
   exact k1
  have hcl:c.size=a.length+t.length:=by
   have:=congrArg List.length h1
   rw [List.length_append] at this
   simpa using this
  rw [open_held H.right H.up hat hheld]
  have ht:taken (bodies (logOf d).data.toList)=a.length:=by rw [hlog,h1]; exact k2
  rw [ht,hlog]
  by_cases he:a.length=c.size
  ·rw [if_pos he]
   have:t=[]:=List.eq_nil_of_length_eq_zero (by omega)
   subst this
   exact⟨d,_,nw,rfl,H,.inr ⟨c,rfl,by rw [h1,List.append_nil]; exact h2⟩,Nat.le_max_left _ _,Nat.le_refl _⟩
  ·rw [if_neg he]
   rcases anew_out H h with ⟨e,lf',b,s⟩ | ⟨e,b,-⟩ | ⟨e,b,-⟩
   ·rw [if_pos e]
    rw [b rfl] at s
    have h0:noB.size=0:=rfl
    exact⟨_,_,none,rfl,s,.inr ⟨_,rfl,whole_log h2.right⟩,by simp only [szO_some]; omega,Nat.zero_le _⟩
   ·exact absurd rfl b
   ·exact absurd b (by omega)
end Go.Proofs.YtlpgbmaoenncjaaGreatDoor

namespace Go.Proofs.YtlpgbmaoenncjaaGreatDoor
open Go.RowKit
set_option linter.unusedVariables false
def szR (l:List Rc):Nat:=(l.map fun r=>r.data.size).sum
theorem szR_cons (r:Rc) (l:List Rc):szR (r :: l)=r.data.size+szR l:=by simp [szR]
theorem szR_take {l:List Rc}{k:Nat}(h:k<l.length):szR (l.take (k+1))=szR (l.take k)+l[k].data.size:=by
 unfold szR
 rw [List.take_succ_eq_append_getElem h,List.map_append,List.sum_append]
 simp only [List.map_cons,List.map_nil,List.sum_cons,List.sum_nil,Nat.add_zero]
theorem szR_drop:∀ (l:List Rc) (k:Nat),szR (l.drop k)≤szR l
 | l,0=>Nat.le_refl _
 | [],k+1=>Nat.le_refl _
 | r :: l,k+1=>by rw [List.drop_succ_cons,szR_cons]; have:=szR_drop l k; omega
def smallH (h:Hd):Prop:=h.snap.size+szR h.recs≤20000
theorem recs_len2:∀ {l:List Rc},(∀ r∈l,(in63 r.term∧in63 r.kind)∧r.data.size≤8192)→(putAll (l.map recV)).length≤szR l+l.length*67
 | [],_=>by simp [putAll]
 | r :: l,h=>by
   have ih:=recs_len2 (l:=l) (fun x hx=>h x (List.mem_cons_of_mem _ hx))
   obtain⟨⟨h1,h2⟩,h3⟩:=h r (List.mem_cons_self ..)
   have e1:=numV_len h1.1 h1.2
   have e2:=numV_len h2.1 h2.2
   have e3:=textV_len (s:=r.data) (by omega)
   have e:(putL (recV r)).length≤r.data.size+67:=by
    unfold recV
    rw [listV_len]
    simp only [putAll,List.length_append,List.length_nil]
    omega
   rw [List.map_cons,putAll,List.length_append,szR_cons,List.length_cons]
   omega
theorem right_recs {h:Hd}(hr:rightH h=true):(∀ r∈h.recs,(in63 r.term∧in63 r.kind)∧r.data.size≤8192)∧h.recs.length≤200:=by
 obtain⟨⟨-,-,⟨-,-,-,-,-,k7,-⟩,-,-⟩,-,hc⟩:=shaped_in (rightH_shaped hr)
 exact⟨fun r hx=>by have:=hc r hx; exact⟨⟨⟨by omega,by omega⟩,⟨by omega,by omega⟩⟩,by omega⟩,k7⟩
theorem put_small {h:Hd}(hr:rightH h=true) (hs:smallH h):(putH h).1.size≤34000:=by
 have hp:=rightH_put hr
 have hsh:=rightH_shaped hr
 obtain⟨q1,q2⟩:=right_recs hr
 obtain⟨⟨k1,k2,⟨k3,k4,k5,k6,-,k7,-⟩,k8,k9⟩,hv,-⟩:=shaped_in hsh
 generalize (putH h).1=s at *
 unfold putH at hp
 rw [if_pos hsh] at hp
 split at hp
 ·exact absurd (congrArg Prod.snd hp) (by simp)
 ·have hl:=congrArg List.length (put_back (hdV_inR hsh) hp).2.2.2.2
  have hss:s.data.toList.length=s.size:=by simp
  rw [hss] at hl
  rw [hl]
  unfold hdV
  rw [listV_len]
  simp only [putAll,List.length_append,List.length_nil]
  have e0:=numV_len (n:=h.term) (by omega) (by omega)
  have e1:=numV_len (n:=h.vote) (by omega) (by omega)
  have e2:=numV_len (n:=h.base) (by omega) (by omega)
  have e3:=numV_len (n:=h.bt) (by omega) (by omega)
  have e8:=textV_len (s:=h.snap) (by omega)
  have e9:=votersV_len (l:=h.voters) (fun x hx=>by have:=hv x hx; exact⟨by omega,by omega⟩)
  have e10:=recs_len2 q1
  rw [listV_len (h.recs.map recV)]
  unfold smallH at hs
  omega
theorem whole_small {h:Hd}(hr:rightH h=true) (hs:smallH h):(wholeB (putH h).1).size≤34100:=by
 have hz:=put_small hr hs
 generalize (putH h).1=s at *
 have hl:=congrArg List.length (whole_list s)
 rw [pieces_short (by omega)] at hl
 have e1:(putGot (numV (([s]:List ByteArray).length:Int))).1=⟨#[105,49,101]⟩:=congrArg Prod.fst putGot_one
 rw [e1] at hl
 have hss:(wholeB s).data.toList.length=(wholeB s).size:=by simp
 rw [hss] at hl
 rw [hl]
 unfold framesL
 simp only [List.map_cons,List.map_nil,List.flatten_cons,List.flatten_nil,List.length_append,List.length_nil,frameL_length]
 have h3:s.data.toList.length=s.size:=by simp
 rw [h3]
 simp
 omega
theorem change_small {old now:Hd}(ho:rightH old=true) (hr:rightH now=true) (hs:smallH now):∀ g,putGot (changeV old now)=(g,0)→g.size+12≤34100:=by
 intro g hg
 obtain⟨q1,q2⟩:=right_recs hr
 obtain⟨⟨k1,k2,-,-,-⟩,-,hc⟩:=shaped_in (rightH_shaped hr)
 have hrl:=right_log hr
 have hn:=sameN_le old.recs now.recs
 have hl:=congrArg List.length (put_back (changeV_inR ho hr) hg).2.2.2.2
 have hss:g.data.toList.length=g.size:=by simp
 rw [hss] at hl
 rw [hl]
 unfold changeV
 rw [listV_len]
 simp only [putAll,List.length_append,List.length_nil]
 have e0:=numV_len (n:=now.term) (by omega) (by omega)
 have e1:=numV_len (n:=now.vote) (by omega) (by omega)
 have e2:=numV_len (n:=now.base+(sameN old.recs now.recs:Int)) (by omega) (by omega)
 have e10:=recs_len2 (l:=now.recs.drop (sameN old.recs now.recs)) (fun r hx=>q1 r (List.mem_of_mem_drop hx))
 have e11:=szR_drop now.recs (sameN old.recs now.recs)
 rw [List.length_drop] at e10
 rw [listV_len ((now.recs.drop (sameN old.recs now.recs)).map recV)]
 unfold smallH at hs
 omega
end Go.Proofs.YtlpgbmaoenncjaaGreatDoor

namespace Go.Proofs.YtlpgbmaoenncjaaGreatDoor
open Go.RowKit
set_option linter.unusedVariables false
theorem room_right {d:Dk}(h:rightD d=true) (left:Int) (dn:Bool) (h1:-1≤left) (h2:left≤1073741824) (rm:Int) (h3:d.room≤rm) (h4:rm≤1048576):rightD ⟨rm,d.files,left,dn⟩=true:=by
 obtain⟨⟨a0,a1⟩,h8,b0,b1⟩:=rightD_nums h
 obtain⟨k4,k5⟩:=rightD_fs h
 obtain⟨h6,h7⟩:=rightD_size h
 exact rightD_mk (by show (0:Int)≤rm; omega) h4 h8 h1 h2 (by show (szS d.files:Int)≤rm; omega) k4 k5
theorem cut_st {d:Dk}{rm:Int}{lg nw:Option Fl}{lf:Int}(h:St d rm lg nw lf) (left:Int) (h1:-1≤left) (h2:left≤1073741824):cutD d left=(⟨d.room,d.files,left,d.down⟩,0)∧St ⟨d.room,d.files,left,d.down⟩ rm lg nw left:=by
 constructor
 ·unfold cutD
  rw [if_neg (by rw [h.right]; simp; omega),if_neg (by rw [h.up]; simp)]
 ·exact⟨room_right h.right left _ h1 h2 d.room (Int.le_refl _) (rightD_nums h.right).1.2,h.up,h.room,h.two,h.lg,h.nw,rfl⟩
theorem crash_after {x:Dk × Int}{rm:Int}{lg nw:Option Fl}{old now:Hd}{lf:Int}(h:SaveOut x rm lg nw old now 34100 lf) (hl:Holds lg old) (hr:rightH now=true) (hG:∀ g,putGot (changeV old now)=(g,0)→g.size+12≤34100) (keep:List Int) :
 ∃ lg' nw' h',St (crashed x.1 keep) rm lg' nw' (-1)∧After lg' h'∧szO lg'≤szO lg+34100∧(x.2≠130→szO nw'≤max (szO nw) 34100)∧((x.2=0∧h'=now)∨(x.2=132∧(h'=old∨h'=now))∨(x.2=130∧h'=old)):=by
 rcases h with ⟨e,c,nw1,lf1,-,h1,h2,h3,h4⟩ | ⟨e,-,lg1,nw1,h1,h2,h3⟩ | ⟨e,-,nw1,lf1,h1⟩
 ·obtain⟨lg',nw',k1,k2,k3,k4⟩:=crash_holds h1.dn (old:=now) (.inr ⟨c,rfl,h2⟩) keep
  have h0:noB.size=0:=rfl
  exact⟨lg',nw',now,k1,k4,by simp only [szO_some] at k2; omega,fun _=>by omega,.inl ⟨e,rfl⟩⟩
 ·rcases h3 with rfl | ⟨c,g,rfl,rfl,hg,hz,ha⟩
  ·obtain⟨lg',nw',k1,k2,k3,k4⟩:=crash_holds h1 hl keep
   exact⟨lg',nw',old,k1,k4,by omega,fun _=>by omega,.inr (.inl ⟨e,.inl rfl⟩)⟩
  ·have hc:LogIs c.data.toList old:=by
    rcases hl with ⟨q,-⟩ | ⟨c2,q,q2⟩
    ·cases q
    ·cases q; exact q2
   have hgz:=hG g hg
   obtain⟨lg',nw',k1,k2,k3,k4⟩:=crash_torn h1 hc hr ha hg hz keep
   rcases k4 with k4 | k4
   ·exact⟨lg',nw',old,k1,k4,by simp only [szO_some]; omega,fun _=>by omega,.inr (.inl ⟨e,.inl rfl⟩)⟩
   ·exact⟨lg',nw',now,k1,k4,by simp only [szO_some]; omega,fun _=>by omega,.inr (.inl ⟨e,.inr rfl⟩)⟩
 ·obtain⟨lg',nw',k1,k2,k3,k4⟩:=crash_holds h1.dn hl keep
  exact⟨lg',nw',old,k1,k4,by omega,fun q=>absurd e q,.inr (.inr ⟨e,rfl⟩)⟩
def freshD:Dk:=⟨1048576,[],-1,false⟩
theorem fresh_st:St freshD 1048576 none none (-1):=⟨by decide +kernel,rfl,rfl,fun f hf=>(by cases hf),rfl,rfl,rfl⟩
theorem zero_small:smallH Hd.zero:=by unfold smallH; decide
def Inv (k:Nat) (d:Dk) (h:Hd):Prop:=∃ lg nw,St d 1048576 lg nw (-1)∧Holds lg h∧rightH h=true∧smallH h∧szO lg≤k*34100∧szO nw≤34100
theorem inv_start (hz:rightH Hd.zero=true):Inv 0 freshD Hd.zero:=⟨none,none,fresh_st,.inl ⟨rfl,rfl⟩,hz,zero_small,Nat.zero_le _,Nat.zero_le _⟩
theorem open_inv {k:Nat}{d:Dk}{lg nw:Option Fl}{h:Hd}(hk:k≤12) (H:St d 1048576 lg nw (-1)) (hl:After lg h) (hr:rightH h=true) (hs:smallH h) (h1:szO lg≤(k+1)*34100) (h2:szO nw≤34100) :
 ∃ d',openS d=⟨d',h,0⟩∧Inv (k+1) d' h:=by
 have hw:=whole_small hr hs
 obtain⟨d',lg',nw',k1,k2,k3,k4,k5⟩:=open_after H hl (by omega)
 exact⟨d',k1,lg',nw',k2,k3,hr,hs,by omega,by omega⟩
theorem log_size {d:Dk}{rm:Int}{lg nw:Option Fl}{lf:Int}(h:St d rm lg nw lf) (h1:rm≤1048576):(logOf d).size≤4000000:=by
 have hs:=h.dn.size
 unfold logOf
 rw [(atL_look d.files logN).2,h.lg,append_size]
 cases lg with
 | none=>decide
 | some f=>simp only [szO_some] at hs; show f.sy.size+f.ta.size≤4000000; omega
theorem turn_inv {k:Nat}{d:Dk}{old now:Hd}(hk:k<12) (H:Inv k d old) (hr:rightH now=true) (hs:smallH now) (left:Int) (h1:-1≤left) (h2:left≤1073741824) :
 ∃ d1 x,cutD d left=(d1,0)∧saveS d1 old now=x∧(x.2=0∨x.2=132)∧(left = -1→x.2=0) ∧
  (∀ keep,rightD x.1=true∧(logOf (crashed x.1 keep)).size≤4000000∧∃ d' h,openS (crashed x.1 keep)=⟨d',h,0⟩∧(h=now∨(x.2≠0∧h=old))∧Inv (k+1) d' h) ∧
  (left = -1→(logOf x.1).size≤4000000∧∃ d',openS x.1=⟨d',now,0⟩∧Inv (k+1) d' now):=by
 obtain⟨lg,nw,hst,hl,ho,hso,hz1,hz2⟩:=H
 obtain⟨c1,c2⟩:=cut_st hst left h1 h2
 have hw:=whole_small hr hs
 have hch:=change_small ho hr hs
 have hso2:=save_out c2 hl ho hr hw hch
 refine⟨_,_,c1,rfl,?_,?_,fun keep=>?_,fun e=>?_⟩
 ·rcases hso2 with ⟨e,-⟩ | ⟨e,-⟩ | ⟨e,k2,-⟩
  ·exact .inl e
  ·exact .inr e
  ·exact absurd k2 (by omega)
 ·intro e
  rcases hso2 with ⟨e,-⟩ | ⟨-,k2,-⟩ | ⟨-,k2,-⟩
  ·exact e
  ·exact absurd e k2
  ·exact absurd k2 (by omega)
 ·obtain⟨lg',nw',h',q1,q2,q3,q4,q5⟩:=crash_after hso2 hl hr hch keep
  have hne:(saveS ⟨d.room,d.files,left,d.down⟩ old now).2≠130:=by
   rcases hso2 with ⟨e,-⟩ | ⟨e,-⟩ | ⟨-,k2,-⟩
   ·rw [e]; decide
   ·rw [e]; decide
   ·exact absurd k2 (by omega)
  have hright:rightD (saveS ⟨d.room,d.files,left,d.down⟩ old now).1=true:=by
   rcases hso2 with ⟨-,c,nw1,lf1,-,k2,-⟩ | ⟨-,-,lg1,nw1,k2,-⟩ | ⟨-,-,nw1,lf1,k2⟩ <;> exact k2.right
  have hnw:=q4 hne
  have hh:rightH h'=true∧smallH h'∧(h'=now∨((saveS ⟨d.room,d.files,left,d.down⟩ old now).2≠0∧h'=old)):=by
   rcases q5 with ⟨e,rfl⟩ | ⟨e,rfl | rfl⟩ | ⟨e,rfl⟩
   ·exact⟨hr,hs,.inl rfl⟩
   ·exact⟨ho,hso,.inr ⟨by rw [e]; decide,rfl⟩⟩
   ·exact⟨hr,hs,.inl rfl⟩
   ·exact absurd e hne
  obtain⟨d',r1,r2⟩:=open_inv (k:=k) (by omega) q1 q2 hh.1 hh.2.1 (by omega) (by omega)
  exact⟨hright,log_size q1 (Int.le_refl _),d',h',r1,hh.2.2,r2⟩
 ·rcases hso2 with ⟨-,c,nw1,lf1,k1,k2,k3,k4,k5⟩ | ⟨-,k2,-⟩ | ⟨-,k2,-⟩
  ·rw [k1 e] at k2
   have h0:noB.size=0:=rfl
   obtain⟨d',r1,r2⟩:=open_inv (k:=k) (by omega) k2 (Holds.after (.inr ⟨c,rfl,k3⟩)) hr hs (by simp only [szO_some]; omega) (by omega)
   exact⟨log_size k2 (Int.le_refl _),d',r1,r2⟩
  ·exact absurd e k2
  ·exact absurd k2 (by omega)
end Go.Proofs.YtlpgbmaoenncjaaGreatDoor

namespace Go.Proofs.YtlpgbmaoenncjaaGreatDoor
open Go.RowKit
set_option linter.unusedVariables false
set_option maxRecDepth 100000 in
set_option maxHeartbeats 1000000 in
theorem small14_sum (h:Hd) (ar:Option Addr) (nr cr:Nat) (av:Option Addr) (nv cv:Nat) (w:World) (H:HdAt w h ar nr cr av nv cv) :
 Calls Tryz.prog 18 #[h.val ar nr cr av nv cv] w fun e w'=>(∃ b,e = .returned (.bool b)∧(b=true→smallH h))∧Below w.heap.size w w':=by
 have hsn:=H.snap
 have HSM:Hid (∀ k:Nat,k=h.recs.length→h.snap.size+szR (h.recs.take k)≤20000→smallH h):=Lib.hid (fun k hk hs=>by subst hk; rw [List.take_length] at hs; exact hs)
 generalize smallH h=SM at *
 have hd:=fun r hr=>(H.data r hr).1
 obtain⟨tm,vt,bs,bt,rs,sn,vs⟩:=h
 unfold Hd.val
 dsimp only at *
 have HR:=Lib.hid (show rcE.Sl w ar nr rs from H.recs)
 have HN:=Lib.hid (show nr=rs.length from H.rlen)
 have HNR:=H.nr
 have HD:=Lib.hid hd
 have HB0:=Lib.hid ((Below.refl w.heap.size w).alloc (Nat.le_refl _) (.cells #[.int .i64 tm,.int .i64 vt,.int .i64 bs,.int .i64 bt,.slice ar nr cr,.string sn,.slice av nv cv] 42))
 have HK0:Hid (Blk (w.alloc (.cells #[.int .i64 tm,.int .i64 vt,.int .i64 bs,.int .i64 bt,.slice ar nr cr,.string sn,.slice av nv cv] 42)) w.heap.size 42 [.int .i64 tm,.int .i64 vt,.int .i64 bs,.int .i64 bt,.slice ar nr cr,.string sn,.slice av nv cv]):=Lib.hid (heap_alloc_new w _)
 have x4:=HK0.out.cell (j:=4) rfl
 have x5:=HK0.out.cell (j:=5) rfl
 clear H hd
 obtain⟨K0,hK0⟩:∃ K0,K0=sn.size:=⟨_,rfl⟩
 rw [← hK0] at hsn
 replace hK0:=Lib.hid hK0
 go_enter Tryz.func18,Tryz.ntmps18
 go_wp2_with fail
 clear x4 x5
 go_loopg [3,4,5,13] nr (fun gk v3 v4 v5 i wr=>∃ k K:Nat,k≤nr∧gk=nr - k∧i = .int .i64 (k:Int)∧v3 = .int .i64 (K:Int)∧K≤140737488355328∧Hid (K=sn.size+szR (rs.take k))∧Hid (Below w.heap.size w wr))
 case atStart=>exact⟨0,K0,Nat.zero_le _,rfl,rfl,by rw [hK0.out],hsn,Lib.hid (by rw [hK0.out]; simp [szR]),HB0⟩
 case round =>
  obtain⟨k,K,hk,rfl,rfl,rfl,hK,HKS,hB⟩:=hrel
  by_cases hkn:k<nr
  ·have hki:(k:Int)<(nr:Int):=by omega
   have hkl:k<rs.length:=by rw [← HN.out]; exact hkn
   obtain⟨b,off,rfl,hc⟩:=rc_at (HR.out.keep hB.out) (by omega)
   obtain⟨c0,c1,c2⟩:=hc k hkl
   have hdk:=HD.out _ (List.getElem_mem hkl)
   have hsz:=szR_take (l:=rs) hkl
   clear hc
   generalize rs[k]=r at *
   obtain⟨rt,rk,rd⟩:=r
   dsimp only at *
   have HSZ:=Lib.hid hsz
   clear hsz
   have HK1:Hid (Blk (wr.alloc (.cells #[.int .i64 rt,.int .i64 rk,.string rd] 67)) wr.heap.size 67 [.int .i64 rt,.int .i64 rk,.string rd]):=Lib.hid (heap_alloc_new wr _)
   have HB1:=Lib.hid (hB.out.alloc hB.out.size (.cells #[.int .i64 rt,.int .i64 rk,.string rd] 67))
   have z2:=HK1.out.cell (j:=2) rfl
   by_cases hbig:K+rd.size≤20000
   ·have hbi:(K:Int)+(rd.size:Int)≤20000:=by omega
    by_cases hk1:k≤300
    ·have hk1i:(k:Int)≤300:=by omega
     go_wp2_with fail
     go_roundg (nr - (k+1))
     case rel=>exact⟨k+1,K+rd.size,by omega,rfl,by go_num,by go_num,by omega,Lib.hid (by rw [HSZ.out,HKS.out]; omega),HB1⟩
     case measure=>omega
    ·have hk1i:(300:Int)<(k:Int):=by omega
     go_wp2_with fail
     go_ret
     exact⟨⟨_,rfl,fun h=>by cases h⟩,HB1.out⟩
   ·have hbi:(20000:Int)<(K:Int)+(rd.size:Int):=by omega
    go_wp2_with fail
    go_ret
    exact⟨⟨_,rfl,fun h=>by cases h⟩,HB1.out⟩
  ·have hki:(nr:Int)≤(k:Int):=by omega
   go_wp2_with fail
   go_ret
   exact⟨⟨_,rfl,fun hb=>HSM.out k (by have:=HN.out; omega) (by rw [← HKS.out]; have:=of_decide_eq_true hb; omega)⟩,hB.out⟩
theorem fresh_at {w:World}:DkAt w none 0 0 freshD:=⟨Enc.Sl.nil _ _,Nat.le_refl _,Nat.zero_le _,fun _=>rfl,by decide,fun f hf=>(by cases hf),by decide,by decide⟩
end Go.Proofs.YtlpgbmaoenncjaaGreatDoor

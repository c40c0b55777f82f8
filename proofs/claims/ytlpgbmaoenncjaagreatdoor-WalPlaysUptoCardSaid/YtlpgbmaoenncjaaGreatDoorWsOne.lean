/-
  Saving a state on a disk, in plain Lean: the pieces, the whole, the calls, what is saved; the program's order of tests and the reference's are one; without a condition.
  Opening a disk, in plain Lean: the state that bodies tell; the program's tests and the reference's are one; without a condition.
  What a log's bytes hold, in plain Lean: a whole is opened again, a change behind it too, a torn one is passed over; without a condition.
-/
import Derived.Test.YtlpgbmaoenncjaaGreatDoorWlP
import Derived.Test.YtlpgbmaoenncjaaGreatDoorFram
import Derived.Test.YtlpgbmaoenncjaaGreatDoorDkOne
namespace Go.Proofs.YtlpgbmaoenncjaaGreatDoor
open Go.RowKit
set_option linter.unusedVariables false
def callK (d:Dk) (what:Int) (nm more:ByteArray):Dk × Int :=
 if what=1 then writeD d nm more else if what=2 then syncD d nm else if what=3 then renameD d nm more else removeD d nm
def cutB:Nat→ByteArray→List ByteArray
 | 0,s=>[s]
 | f+1,s=>if 60000<s.size then s.extract 0 60000 :: cutB f (s.extract 60000 s.size) else [s]
def piecesB (s:ByteArray):List ByteArray:=cutB s.size s
theorem cutB_short {s:ByteArray}(h:s.size≤60000):∀ f,cutB f s=[s]
 | 0=>rfl
 | f+1=>by rw [cutB,if_neg (by omega)]
theorem cutB_enough:∀ (f g:Nat) (s:ByteArray),s.size≤f→s.size≤g→cutB f s=cutB g s
 | 0,g,s,hf,hg=>by rw [cutB_short (by omega),cutB_short (by omega)]
 | f+1,0,s,hf,hg=>by rw [cutB_short (by omega),cutB_short (by omega)]
 | f+1,g+1,s,hf,hg=>by
   rw [cutB,cutB]
   split
   ·rw [cutB_enough f g _ (by rw [ByteArray.size_extract]; omega) (by rw [ByteArray.size_extract]; omega)]
   ·rfl
theorem pieces_long {s:ByteArray}(h:60000<s.size):piecesB s=s.extract 0 60000 :: piecesB (s.extract 60000 s.size):=by
 unfold piecesB
 obtain⟨k,hk⟩:∃ k,s.size=k+1:=⟨s.size - 1,by omega⟩
 have hz:(s.extract 60000 s.size).size=s.size - 60000:=by rw [ByteArray.size_extract]; omega
 have e:=cutB_enough k (s.extract 60000 s.size).size (s.extract 60000 s.size) (by omega) (Nat.le_refl _)
 conv=>lhs; rw [hk,cutB,if_pos h]
 rw [e]
theorem pieces_short {s:ByteArray}(h:s.size≤60000):piecesB s=[s]:=cutB_short h _
def wholeB (s:ByteArray):ByteArray:=(piecesB s).foldl (fun o p=>o++frameOf p) (frameOf (putGot (numV ((piecesB s).length:Int))).1)
def callS (d:Dk) (what:Int) (nm more:ByteArray):Dk × Int :=
 if (callK d what nm more).2=0∨(callK d what nm more).2=132 then callK d what nm more else (d,(callK d what nm more).2)
structure Stp where
 what:Int
 nm:ByteArray
 more:ByteArray
def stepsS:Dk→List Stp→Dk × Int
 | d,[]=>(d,0)
 | d,s :: r=>if (callS d s.what s.nm s.more).2=0 then stepsS (callS d s.what s.nm s.more).1 r else callS d s.what s.nm s.more
def logN:ByteArray:=⟨#[108,111,103]⟩
def newN:ByteArray:=⟨#[108,111,103,46,110,101,119]⟩
def noB:ByteArray:=⟨#[]⟩
def threeS (h:Hd):List Stp:=[⟨1,newN,wholeB (putH h).1⟩,⟨2,newN,noB⟩,⟨3,newN,logN⟩]
def anewS (d:Dk) (h:Hd):Dk × Int:=stepsS d (if atL d.files newN<0 then threeS h else ⟨4,newN,noB⟩ :: threeS h)
instance:DecidableEq Rc:=fun a b=>decidable_of_iff (a.term=b.term∧a.kind=b.kind∧a.data=b.data) ⟨fun ⟨h1,h2,h3⟩=>by obtain⟨x,y,z⟩:=a; obtain⟨p,q,r⟩:=b; dsimp only at h1 h2 h3; subst h1 h2 h3; rfl,fun h=>by subst h; exact⟨rfl,rfl,rfl⟩⟩
def sameN:List Rc→List Rc→Nat
 | x :: a,y :: b=>if x=y then sameN a b+1 else 0
 | _,_=>0
theorem sameN_le:∀ a b:List Rc,sameN a b≤a.length∧sameN a b≤b.length
 | [],b=>by simp [sameN]
 | x :: a,[]=>by simp [sameN]
 | x :: a,y :: b=>by
   have:=sameN_le a b
   unfold sameN
   split <;> simp <;> omega
theorem sameN_all:∀ a b:List Rc,(sameN a b=a.length∧sameN a b=b.length)↔a=b
 | [],[]=>by simp [sameN]
 | [],y :: b=>by simp [sameN]
 | x :: a,[]=>by simp [sameN]
 | x :: a,y :: b=>by
   have:=sameN_all a b
   unfold sameN
   split
   ·rename_i h; subst h; simp only [List.length_cons,Nat.add_right_cancel_iff,List.cons.injEq,true_and]; exact this
   ·rename_i h; simp [h]
def changeV (old now:Hd):V:=listV [numV now.term,numV now.vote,numV (now.base+(sameN old.recs now.recs:Int)),listV ((now.recs.drop (sameN old.recs now.recs)).map recV)]
def alikeH (old now:Hd):Prop:=old.base=now.base∧old.bt=now.bt∧old.snap=now.snap∧old.voters=now.voters
instance (old now:Hd):Decidable (alikeH old now):=by unfold alikeH; exact inferInstance
def appendS (d:Dk) (g:ByteArray):Dk × Int:=stepsS d [⟨1,logN,frameOf g⟩,⟨2,logN,noB⟩]
def goS (d:Dk) (old now:Hd):Dk × Int :=
 if atL d.files logN<0∨¬ alikeH old now then anewS d now
 else if old.term=now.term∧old.vote=now.vote∧sameN old.recs now.recs=old.recs.length∧sameN old.recs now.recs=now.recs.length then (d,0)
 else if (putGot (changeV old now)).2≠0∨65536<(putGot (changeV old now)).1.size then anewS d now
 else appendS d (putGot (changeV old now)).1
def saveS (d:Dk) (old now:Hd):Dk × Int :=
 if rightD d=false∨rightH old=false∨rightH now=false then (d,1)
 else if d.down=true then (d,132)
 else goS d old now
def sameH (old now:Hd):Prop:=old.term=now.term∧old.vote=now.vote∧old.snap=now.snap∧old.base=now.base∧old.bt=now.bt∧old.recs=now.recs∧old.voters=now.voters
instance (old now:Hd):Decidable (sameH old now):=by unfold sameH; exact inferInstance
end Go.Proofs.YtlpgbmaoenncjaaGreatDoor

namespace Go.Proofs.YtlpgbmaoenncjaaGreatDoor
open Go.RowKit
set_option linter.unusedVariables false
def joinB (l:List ByteArray):ByteArray:=l.foldl (fun o p=>o++p) ⟨#[]⟩
def behindH (h:Hd) (v:V):Hd:=⟨(fld v 0).n,(fld v 1).n,h.base,h.bt,h.recs.take ((fld v 2).n - h.base).toNat++(fld v 3).l.map recRead,h.snap,h.voters⟩
def behindOk (h:Hd) (v:V):Prop:=v.k=3∧v.l.length=4∧(smallN (fld v 0)∧smallN (fld v 1)∧smallN (fld v 2))∧((fld v 3).k=3∧∀ x∈(fld v 3).l,recIs x)∧(h.base≤(fld v 2).n∧(fld v 2).n≤h.base+(h.recs.length:Int))∧rightH (behindH h v)=true
instance (h:Hd) (v:V):Decidable (behindOk h v):=by unfold behindOk; exact inferInstance
def behindB (h:Hd) (b:ByteArray):Option Hd:=if (getL b).bad=0∧behindOk h (getL b).v then some (behindH h (getL b).v) else none
def changeH (h:Hd) (v:V):Hd:=⟨cl (fld v 0).n,cl (fld v 1).n,h.base,h.bt,h.recs.take (cl (fld v 2).n - h.base).toNat++(fld v 3).l.map recCut,h.snap,h.voters⟩
def changeOk (h:Hd) (v:V):Prop:=v.k=3∧v.l.length=4∧((fld v 0).k=1∧(fld v 1).k=1∧(fld v 2).k=1)∧((fld v 3).k=3∧∀ x∈(fld v 3).l,recAll x)∧(0≤cl (fld v 2).n - h.base∧cl (fld v 2).n - h.base≤(h.recs.length:Int))∧rightH (changeH h v)=true
instance (h:Hd) (v:V):Decidable (changeOk h v):=by unfold changeOk; exact inferInstance
def changeB (h:Hd) (b:ByteArray):Option Hd:=if (getL b).bad=0∧changeOk h (getL b).v then some (changeH h (getL b).v) else none
theorem right_log {h:Hd}(hr:rightH h=true):0≤h.base∧h.base+(h.recs.length:Int)≤1073741824:=by
 obtain⟨⟨-,-,⟨k3,k4,k5,k6,k7,k8,k9⟩,-,-⟩,-,-⟩:=shaped_in (rightH_shaped hr)
 omega
theorem change_same {h:Hd}{v:V}(h0:0≤(fld v 0).n∧(fld v 0).n≤1073741824) (h1:0≤(fld v 1).n∧(fld v 1).n≤1073741824) (h2:0≤(fld v 2).n∧(fld v 2).n≤1073741824)
 (h3:∀ x∈(fld v 3).l,(0≤(fld x 0).n∧(fld x 0).n≤1073741824)∧(0≤(fld x 1).n∧(fld x 1).n≤1073741824)):changeH h v=behindH h v:=by
 unfold changeH behindH
 rw [cl_of (n:=(fld v 0).n) (by omega) (by omega),cl_of (n:=(fld v 1).n) (by omega) (by omega),cl_of (n:=(fld v 2).n) (by omega) (by omega),
  map_same (f:=recCut) (g:=recRead) (fun x hx=>by
   have:=h3 x hx
   unfold recCut recRead; rw [cl_of (n:=(fld x 0).n) (by omega) (by omega),cl_of (n:=(fld x 1).n) (by omega) (by omega)])]
theorem change_iff {h:Hd}(hr:rightH h=true) (v:V):(changeOk h v↔behindOk h v)∧(changeOk h v→changeH h v=behindH h v):=by
 have hl:=right_log hr
 have key:changeOk h v→changeH h v=behindH h v∧behindOk h v:=by
  rintro⟨c1,c2,⟨c3,c4,c5⟩,⟨c6,c7⟩,⟨c8,c9⟩,c10⟩
  obtain⟨⟨k1,k2,-,-,-⟩,-,hc⟩:=shaped_in (rightH_shaped c10)
  simp only [changeH] at k1 k2
  have e0:=cl_in (n:=(fld v 0).n) (by omega) (by omega)
  have e1:=cl_in (n:=(fld v 1).n) (by omega) (by omega)
  have e2:=cl_in (n:=(fld v 2).n) (by omega) (by omega)
  have e3:∀ x∈(fld v 3).l,(0≤(fld x 0).n∧(fld x 0).n≤1073741824)∧(0≤(fld x 1).n∧(fld x 1).n≤1073741824):=by
   intro x hx
   have h2:=hc (recCut x) (by unfold changeH; exact List.mem_append_right _ (List.mem_map.2 ⟨x,hx,rfl⟩))
   simp only [recCut] at h2
   have i0:=cl_in (n:=(fld x 0).n) (by omega) (by omega)
   have i1:=cl_in (n:=(fld x 1).n) (by omega) (by omega)
   omega
  have e:=change_same (h:=h) (v:=v) (by omega) (by omega) (by omega) e3
  refine⟨e,c1,c2,⟨⟨c3,by omega,by omega⟩,⟨c4,by omega,by omega⟩,⟨c5,by omega,by omega⟩⟩,⟨c6,fun x hx=>?_⟩,by omega,by rw [← e]; exact c10⟩
  have h2:=c7 x hx
  have h3:=e3 x hx
  unfold recAll at h2
  unfold recIs smallN
  omega
 refine⟨⟨fun hc=>(key hc).2,?_⟩,fun hc=>(key hc).1⟩
 rintro⟨c1,c2,⟨c3,c4,c5⟩,⟨c6,c7⟩,⟨c8,c9⟩,c10⟩
 unfold smallN at c3 c4 c5
 have e3:∀ x∈(fld v 3).l,(0≤(fld x 0).n∧(fld x 0).n≤1073741824)∧(0≤(fld x 1).n∧(fld x 1).n≤1073741824):=by
  intro x hx
  have:=c7 x hx
  unfold recIs smallN at this
  omega
 have e:=change_same (h:=h) (v:=v) (by omega) (by omega) (by omega) e3
 have e2:=cl_of (n:=(fld v 2).n) (by omega) (by omega)
 refine⟨c1,c2,⟨c3.1,c4.1,c5.1⟩,⟨c6,fun x hx=>?_⟩,by rw [e2]; omega,by rw [e]; exact c10⟩
 have h2:=c7 x hx
 unfold recIs smallN at h2
 unfold recAll
 omega
theorem changeB_eq {h:Hd}(hr:rightH h=true) (b:ByteArray):changeB h b=behindB h b:=by
 unfold changeB behindB
 obtain⟨h1,h2⟩:=change_iff hr (getL b).v
 by_cases hb:(getL b).bad=0∧changeOk h (getL b).v
 ·rw [if_pos hb,if_pos ⟨hb.1,h1.1 hb.2⟩,h2 hb.2]
 ·rw [if_neg hb,if_neg (fun k=>hb ⟨k.1,h1.2 k.2⟩)]
theorem behindB_right {h x:Hd}{b:ByteArray}(hb:behindB h b=some x):rightH x=true:=by
 unfold behindB at hb
 split at hb
 ·rename_i hc
  cases hb
  exact hc.2.2.2.2.2.2
 ·cases hb
def foldH:Hd→List ByteArray→Option Hd
 | h,[]=>some h
 | h,b :: r=>match behindB h b with
   | none=>none
   | some x=>foldH x r
theorem foldH_append:∀ (a b:List ByteArray) (h:Hd),foldH h (a++b)=(foldH h a).bind fun x=>foldH x b
 | [],b,h=>rfl
 | y :: a,b,h=>by
   rw [List.cons_append,foldH,foldH]
   cases behindB h y with
   | none=>rfl
   | some x=>exact foldH_append a b x
theorem foldH_right:∀ (l:List ByteArray) (h x:Hd),rightH h=true→foldH h l=some x→rightH x=true
 | [],h,x,hr,e=>by cases e; exact hr
 | y :: l,h,x,hr,e=>by
   rw [foldH] at e
   cases hb:behindB h y with
   | none=>rw [hb] at e; cases e
   | some z=>rw [hb] at e; exact foldH_right l z x (behindB_right hb) e
def headOk (b:ByteArray) (m:Nat):Prop:=(getL b).bad=0∧(getL b).v.k=1∧(1≤(getL b).v.n∧(getL b).v.n≤9)∧(getL b).v.n≤(m:Int)
instance (b:ByteArray) (m:Nat):Decidable (headOk b m):=by unfold headOk; exact inferInstance
def cntB (b:ByteArray):Nat:=(getL b).v.n.toNat
def heldS:List ByteArray→Option Hd
 | []=>none
 | b :: r=>if headOk b r.length then (if (getH (joinB (r.take (cntB b)))).2=0∧piecesB (joinB (r.take (cntB b)))=r.take (cntB b) then foldH (getH (joinB (r.take (cntB b)))).1 (r.drop (cntB b)) else none) else none
theorem getH_right {s:ByteArray}(h:(getH s).2=0):rightH (getH s).1=true:=by
 unfold getH at h ⊢
 split at h
 ·rename_i hb; exact absurd h hb
 ·rename_i hb
  rw [if_neg hb]
  unfold readH at h ⊢
  split at h
  ·rename_i hm; rw [if_pos hm]; exact hm.2.2.2.2
  ·simp at h
theorem heldS_right {bs:List ByteArray}{x:Hd}(h:heldS bs=some x):rightH x=true:=by
 unfold heldS at h
 split at h
 ·cases h
 ·split at h
  ·split at h
   ·rename_i hk; exact foldH_right _ _ _ (getH_right hk.1) h
   ·cases h
  ·cases h
structure Opn where
 d:Dk
 h:Hd
 bad:Int
def logOf (d:Dk):ByteArray:=(fileOf d.files logN).sy++(fileOf d.files logN).ta
def bodsB (s:ByteArray):List ByteArray:=(bodies s.data.toList).map strOf
def openS (d:Dk):Opn :=
 if rightD d=false then ⟨d,Hd.zero,1⟩
 else if d.down=true then ⟨d,Hd.zero,132⟩
 else if atL d.files logN<0 then ⟨d,Hd.zero,0⟩
 else match heldS (bodsB (logOf d)) with
  | none=>⟨d,Hd.zero,61⟩
  | some h=>if taken (bodies (logOf d).data.toList)=(logOf d).size then ⟨d,h,0⟩ else if (anewS d h).2=0 then ⟨(anewS d h).1,h,0⟩ else ⟨(anewS d h).1,Hd.zero,(anewS d h).2⟩
end Go.Proofs.YtlpgbmaoenncjaaGreatDoor

namespace Go.Proofs.YtlpgbmaoenncjaaGreatDoor
open Go.RowKit
set_option linter.unusedVariables false
def framesL (bs:List ByteArray):List UInt8:=(bs.map fun b=>frameL b.data.toList).flatten
theorem bodies_frame (b:List UInt8) (hb:b.length≤65536) (more:List UInt8):bodies (frameL b++more)=b :: bodies more:=by
 rw [bodies_some _ b (oneL_frame b more hb),List.drop_append_of_le_length (by rw [frameL_length]; omega),List.drop_of_length_le (by rw [frameL_length]; omega),List.nil_append]
theorem bodies_frames:∀ (bs:List ByteArray),(∀ b∈bs,b.size≤65536)→∀ more:List UInt8,bodies (framesL bs++more)=bs.map (fun b=>b.data.toList)++bodies more
 | [],_,more=>rfl
 | b :: r,h,more=>by
   have hb:b.data.toList.length≤65536:=by rw [Array.length_toList]; exact h b (List.mem_cons_self ..)
   have e:framesL (b :: r)=frameL b.data.toList++framesL r:=by unfold framesL; simp
   rw [e,List.append_assoc,bodies_frame _ hb,bodies_frames r (fun x hx=>h x (List.mem_cons_of_mem _ hx))]
   rfl
theorem taken_map (bs:List ByteArray):taken (bs.map fun b=>b.data.toList)=(framesL bs).length:=by
 rw [taken_frames]
 unfold framesL
 rw [List.map_map]
 rfl
theorem oneL_torn (b:List UInt8) (hb:b.length≤65536) (k:Nat) (hk:k<b.length+12):oneL ((frameL b).take k)=none:=by
 cases ho:oneL ((frameL b).take k) with
 | none=>rfl
 | some x =>
   exfalso
   obtain⟨h1,h2,-,h4,-⟩:=oneL_some ho
   rw [List.length_take] at h2
   have h5:num4 ((frameL b).take k)=b.length:=by
    rw [← num4_take,List.take_take,Nat.min_eq_left (by omega),num4_take]
    unfold frameL
    rw [List.append_assoc,List.append_assoc]
    exact num4_le4 _ (by omega) _
   omega
theorem bodies_torn (b:List UInt8) (hb:b.length≤65536) (k:Nat) (hk:k<b.length+12):bodies ((frameL b).take k)=[]:=bodies_none _ (oneL_torn b hb k hk)
theorem bodies_empty:bodies []=[]:=rfl
def LogIs (c:List UInt8) (h:Hd):Prop:=∃ bs:List ByteArray,c=framesL bs∧(∀ b∈bs,b.size≤65536)∧heldS bs=some h
theorem map_strOf (bs:List ByteArray):(bs.map fun b=>b.data.toList).map strOf=bs:=by
 rw [List.map_map]
 conv=>rhs; rw [← List.map_id bs]
 exact map_same (fun x _=>strOf_self x)
theorem log_opens {c:List UInt8}{h:Hd}(hl:LogIs c h) (t:List UInt8) (ht:bodies t=[]):heldS ((bodies (c++t)).map strOf)=some h∧taken (bodies (c++t))=c.length:=by
 obtain⟨bs,rfl,hb,he⟩:=hl
 rw [bodies_frames bs hb,ht,List.append_nil]
 exact⟨by rw [map_strOf]; exact he,taken_map bs⟩
theorem LogIs.right {c:List UInt8}{h:Hd}(hl:LogIs c h):rightH h=true:=by
 obtain⟨bs,-,-,he⟩:=hl
 exact heldS_right he
theorem join_acc:∀ (l:List ByteArray) (a:ByteArray),(l.foldl (fun o p=>o++p) a).data.toList=a.data.toList++(l.map fun p=>p.data.toList).flatten
 | [],a=>by simp
 | p :: l,a=>by rw [List.foldl_cons,join_acc l,appl]; simp
theorem joinB_list (l:List ByteArray):(joinB l).data.toList=(l.map fun p=>p.data.toList).flatten:=by
 unfold joinB
 rw [join_acc]
 rfl
theorem extr_list (s:ByteArray) (a b:Nat):(s.extract a b).data.toList=(s.data.toList.take b).drop a:=by
 rw [ByteArray.data_extract,Array.toList_extract]
 simp [List.extract,List.drop_take]
theorem ba_eq {a b:ByteArray}(h:a.data.toList=b.data.toList):a=b:=by
 rw [← strOf_self a,← strOf_self b,h]
theorem cutB_join:∀ (f:Nat) (s:ByteArray),((cutB f s).map fun p=>p.data.toList).flatten=s.data.toList
 | 0,s=>by simp [cutB]
 | f+1,s=>by
   rw [cutB]
   split
   ·rename_i h
    rw [List.map_cons,List.flatten_cons,cutB_join f,extr_list,extr_list]
    have hs:s.data.toList.length=s.size:=by rw [Array.length_toList]; rfl
    rw [List.drop_zero,List.take_of_length_le (l:=s.data.toList) (i:=s.size) (by omega),List.take_append_drop]
   ·simp
theorem pieces_join (s:ByteArray):joinB (piecesB s)=s:=ba_eq (by rw [joinB_list]; exact cutB_join _ s)
theorem cutB_size:∀ (f:Nat) (s:ByteArray),s.size≤f→∀ p∈cutB f s,p.size≤60000
 | 0,s,h,p,hp=>by simp [cutB] at hp; subst hp; omega
 | f+1,s,h,p,hp=>by
   rw [cutB] at hp
   split at hp
   ·rcases List.mem_cons.1 hp with rfl | hp
    ·rw [ByteArray.size_extract]; omega
    ·exact cutB_size f _ (by rw [ByteArray.size_extract]; omega) p hp
   ·rename_i h2
    simp at hp
    subst hp
    omega
theorem pieces_size (s:ByteArray):∀ p∈piecesB s,p.size≤60000:=cutB_size _ s (Nat.le_refl _)
theorem pieces_pos (s:ByteArray):1≤(piecesB s).length:=by
 by_cases h:60000<s.size
 ·rw [pieces_long h,List.length_cons]; omega
 ·rw [pieces_short (Nat.le_of_not_lt h)]; exact Nat.le_refl 1
theorem rest_size (s:ByteArray):(s.extract 60000 s.size).size=s.size - 60000:=by rw [ByteArray.size_extract]; omega
theorem pieces_few {s:ByteArray}(h:s.size≤131072):(piecesB s).length≤3:=by
 by_cases h1:60000<s.size
 ·rw [pieces_long h1,List.length_cons]
  have hz:=rest_size s
  generalize s.extract 60000 s.size=t at *
  by_cases h2:60000<t.size
  ·have hz2:=rest_size t
   rw [pieces_long h2,List.length_cons,pieces_short (s:=t.extract 60000 t.size) (by omega),List.length_singleton]
   omega
  ·rw [pieces_short (Nat.le_of_not_lt h2),List.length_singleton]; omega
 ·rw [pieces_short (Nat.le_of_not_lt h1),List.length_singleton]; omega
theorem putGot_one:putGot (numV 1)=(⟨#[105,49,101]⟩,0):=by decide +kernel
theorem putGot_two:putGot (numV 2)=(⟨#[105,50,101]⟩,0):=by decide +kernel
theorem putGot_three:putGot (numV 3)=(⟨#[105,51,101]⟩,0):=by decide +kernel
theorem count_got {k:Nat}(h1:1≤k) (h3:k≤3):∃ b:ByteArray,putGot (numV (k:Int))=(b,0)∧b.size=3∧getL b=⟨numV (k:Int),0,0⟩:=by
 obtain rfl | rfl | rfl:k=1∨k=2∨k=3:=by omega
 ·exact⟨_,putGot_one,rfl,(put_back (numV_inR (by omega) (by omega)) putGot_one).1⟩
 ·exact⟨_,putGot_two,rfl,(put_back (numV_inR (by omega) (by omega)) putGot_two).1⟩
 ·exact⟨_,putGot_three,rfl,(put_back (numV_inR (by omega) (by omega)) putGot_three).1⟩
theorem whole_acc:∀ (l:List ByteArray) (a:ByteArray),(l.foldl (fun o p=>o++frameOf p) a).data.toList=a.data.toList++framesL l
 | [],a=>by simp [framesL]
 | p :: l,a=>by rw [List.foldl_cons,whole_acc l,appl,frameOf_list]; simp [framesL]
theorem whole_list (s:ByteArray):(wholeB s).data.toList=framesL ((putGot (numV ((piecesB s).length:Int))).1 :: piecesB s):=by
 unfold wholeB
 rw [whole_acc,frameOf_list]
 simp [framesL]
theorem putH_size {h:Hd}(hr:rightH h=true):(putH h).1.size≤131072:=by
 have hp:=rightH_put hr
 have hs:=rightH_shaped hr
 generalize (putH h).1=s at *
 unfold putH at hp
 rw [if_pos hs] at hp
 split at hp
 ·exact absurd (congrArg Prod.snd hp) (by simp)
 ·exact (put_back (hdV_inR hs) hp).2.2.2.1
theorem whole_log {h:Hd}(hr:rightH h=true):LogIs (wholeB (putH h).1).data.toList h:=by
 have hp:=rightH_put hr
 have hz:=putH_size hr
 obtain⟨b,hb,hbs,hg⟩:=count_got (pieces_pos (putH h).1) (pieces_few hz)
 refine⟨b :: piecesB (putH h).1,by rw [whole_list,hb],fun x hx=>?_,?_⟩
 ·rcases List.mem_cons.1 hx with rfl | hx
  ·omega
  ·have:=pieces_size _ x hx; omega
 ·unfold heldS
  dsimp only
  have hc:cntB b=(piecesB (putH h).1).length:=by unfold cntB; rw [hg]; rfl
  have h1:=pieces_pos (putH h).1
  have h3:=pieces_few hz
  rw [if_pos (by
   unfold headOk
   rw [hg]
   refine⟨rfl,rfl,⟨?_,?_⟩,?_⟩
   ·show (1:Int)≤((piecesB (putH h).1).length:Int); omega
   ·show ((piecesB (putH h).1).length:Int)≤9; omega
   ·show ((piecesB (putH h).1).length:Int)≤((piecesB (putH h).1).length:Int); omega),hc,List.take_length,List.drop_length,pieces_join]
  obtain⟨hgh,-⟩:=putH_got hp
  rw [hgh,if_pos ⟨rfl,rfl⟩]
  rfl
theorem sameN_take:∀ a b:List Rc,a.take (sameN a b)=b.take (sameN a b)
 | [],b=>by simp [sameN]
 | x :: a,[]=>by simp [sameN]
 | x :: a,y :: b=>by
   unfold sameN
   split
   ·rename_i h; subst h; rw [List.take_succ_cons,List.take_succ_cons,sameN_take a b]
   ·simp
theorem changeV_inR {old now:Hd}(ho:rightH old=true) (hr:rightH now=true):(changeV old now).InR:=by
 obtain⟨⟨k1,k2,-,-,-⟩,-,hc⟩:=shaped_in (rightH_shaped hr)
 have hl:=right_log hr
 have hn:=sameN_le old.recs now.recs
 unfold changeV
 refine listV_inR fun x hx=>?_
 simp only [List.mem_cons,List.mem_nil_iff,or_false] at hx
 rcases hx with rfl | rfl | rfl | rfl
 ·exact numV_inR (by omega) (by omega)
 ·exact numV_inR (by omega) (by omega)
 ·exact numV_inR (by omega) (by omega)
 ·refine listV_inR fun x hx=>?_
  obtain⟨r,hr2,rfl⟩:=List.mem_map.1 hx
  have h2:=hc r (List.mem_of_mem_drop hr2)
  unfold recV
  refine listV_inR fun y hy=>?_
  simp only [List.mem_cons,List.mem_nil_iff,or_false] at hy
  rcases hy with rfl | rfl | rfl
  ·exact numV_inR (by omega) (by omega)
  ·exact numV_inR (by omega) (by omega)
  ·exact textV_inR _
theorem change_back {old now:Hd}(ho:rightH old=true) (hr:rightH now=true) (ha:alikeH old now) {g:ByteArray}(hg:putGot (changeV old now)=(g,0)):behindB old g=some now:=by
 obtain⟨⟨k1,k2,-,-,-⟩,-,hc⟩:=shaped_in (rightH_shaped hr)
 have hl:=right_log hr
 have hn:=sameN_le old.recs now.recs
 obtain⟨hb,-⟩:=put_back (changeV_inR ho hr) hg
 obtain⟨a1,a2,a3,a4⟩:=ha
 have e1:((now.recs.drop (sameN old.recs now.recs)).map recV).map recRead=now.recs.drop (sameN old.recs now.recs):=by
  rw [List.map_map]
  conv=>rhs; rw [← List.map_id (now.recs.drop (sameN old.recs now.recs))]
  exact map_same (fun x _=>rfl)
 have e:behindH old (changeV old now)=now:=by
  show Hd.mk now.term now.vote old.base old.bt (old.recs.take (now.base+(sameN old.recs now.recs:Int) - old.base).toNat++((now.recs.drop (sameN old.recs now.recs)).map recV).map recRead) old.snap old.voters=now
  rw [e1,show (now.base+(sameN old.recs now.recs:Int) - old.base).toNat=sameN old.recs now.recs from by omega,sameN_take,List.take_append_drop,a1,a2,a3,a4]
 unfold behindB
 rw [hb]
 dsimp only
 rw [if_pos,e]
 refine⟨rfl,rfl,rfl,⟨⟨rfl,?_⟩,⟨rfl,?_⟩,⟨rfl,?_⟩⟩,⟨rfl,fun x hx=>?_⟩,?_,by rw [e]; exact hr⟩
 ·show 0≤now.term∧now.term≤1073741824; omega
 ·show 0≤now.vote∧now.vote≤1073741824; omega
 ·show 0≤now.base+(sameN old.recs now.recs:Int)∧now.base+(sameN old.recs now.recs:Int)≤1073741824; omega
 ·obtain⟨r,hr2,rfl⟩:=List.mem_map.1 (show x∈(now.recs.drop (sameN old.recs now.recs)).map recV from hx)
  have h2:=hc r (List.mem_of_mem_drop hr2)
  exact⟨rfl,rfl,⟨rfl,show 0≤r.term∧r.term≤1073741824 by omega⟩,⟨rfl,show 0≤r.kind∧r.kind≤1073741824 by omega⟩,rfl⟩
 ·show old.base≤now.base+(sameN old.recs now.recs:Int)∧now.base+(sameN old.recs now.recs:Int)≤old.base+(old.recs.length:Int); omega
theorem heldS_more {bs:List ByteArray}{h:Hd}(he:heldS bs=some h) (g:ByteArray):heldS (bs++[g])=behindB h g:=by
 cases bs with
 | nil=>cases he
 | cons b r =>
   unfold heldS at he
   dsimp only at he
   split at he
   ·rename_i h1
    split at he
    ·rename_i h2
     obtain⟨i1,i2,⟨i3,i4⟩,i5⟩:=h1
     have hk:cntB b≤r.length:=by unfold cntB; omega
     rw [List.cons_append]
     unfold heldS
     dsimp only
     rw [List.take_append_of_le_length hk,List.drop_append_of_le_length hk,if_pos ⟨i1,i2,⟨i3,i4⟩,by rw [List.length_append]; simp; omega⟩,if_pos h2,foldH_append,he]
     show foldH h [g]=_
     rw [foldH]
     cases behindB h g with
     | none=>rfl
     | some x=>rfl
    ·cases he
   ·cases he
theorem change_log {c:List UInt8}{old now:Hd}(hl:LogIs c old) (hr:rightH now=true) (ha:alikeH old now) {g:ByteArray}(hg:putGot (changeV old now)=(g,0)) (hz:g.size≤65536):LogIs (c++frameL g.data.toList) now:=by
 have ho:=hl.right
 obtain⟨bs,rfl,hb,he⟩:=hl
 refine⟨bs++[g],by unfold framesL; simp,fun b hb2=>?_,by rw [heldS_more he]; exact change_back ho hr ha hg⟩
 rcases List.mem_append.1 hb2 with h | h
 ·exact hb b h
 ·simp at h; subst h; exact hz
end Go.Proofs.YtlpgbmaoenncjaaGreatDoor

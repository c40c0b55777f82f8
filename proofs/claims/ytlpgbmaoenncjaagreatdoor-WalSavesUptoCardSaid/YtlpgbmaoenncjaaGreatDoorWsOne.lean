/-
  Saving a state on a disk, in plain Lean: the pieces, the whole, the calls, what is saved; the program's order of tests and the reference's are one; without a condition.
  Opening a disk, in plain Lean: the state that bodies tell; the program's tests and the reference's are one; without a condition.
  What a log's bytes hold, in plain Lean: a whole is opened again, a change behind it too, a torn one is passed over; without a condition.
-/
import Derived.Test.YtlpgbmaoenncjaaGreatDoorWlP
import Derived.Test.YtlpgbmaoenncjaaGreatDoorFram
import Derived.Test.YtlpgbmaoenncjaaGreatDoorDkOne
namespace Go.Proofs.YtlpgbmaoenncjaaGreatDoor
open Go.RowKit
set_option linter.unusedVariables false
def callK (d:Dk) (what:Int) (nm more:ByteArray):Dk × Int :=
 if what=1 then writeD d nm more else if what=2 then syncD d nm else if what=3 then renameD d nm more else removeD d nm
def cutB:Nat→ByteArray→List ByteArray
 | 0,s=>[s]
 | f+1,s=>if 60000<s.size then s.extract 0 60000 :: cutB f (s.extract 60000 s.size) else [s]
def piecesB (s:ByteArray):List ByteArray:=cutB s.size s
theorem cutB_short {s:ByteArray}(h:s.size≤60000):∀ f,cutB f s=[s]
 | 0=>rfl
 | f+1=>by rw [cutB,if_neg (by omega)]
theorem cutB_enough:∀ (f g:Nat) (s:ByteArray),s.size≤f→s.size≤g→cutB f s=cutB g s
 | 0,g,s,hf,hg=>by rw [cutB_short (by omega),cutB_short (by omega)]
 | f+1,0,s,hf,hg=>by rw [cutB_short (by omega),cutB_short (by omega)]
 | f+1,g+1,s,hf,hg=>by
   rw [cutB,cutB]
   split
   ·rw [cutB_enough f g _ (by rw [ByteArray.size_extract]; omega) (by rw [ByteArray.size_extract]; omega)]
   ·rfl
theorem pieces_long {s:ByteArray}(h:60000<s.size):piecesB s=s.extract 0 60000 :: piecesB (s.extract 60000 s.size):=by
 unfold piecesB
 obtain⟨k,hk⟩:∃ k,s.size=k+1:=⟨s.size - 1,by omega⟩
 have hz:(s.extract 60000 s.size).size=s.size - 60000:=by rw [ByteArray.size_extract]; omega
 have e:=cutB_enough k (s.extract 60000 s.size).size (s.extract 60000 s.size) (by omega) (Nat.le_refl _)
 conv=>lhs; rw [hk,cutB,if_pos h]
 rw [e]
theorem pieces_short {s:ByteArray}(h:s.size≤60000):piecesB s=[s]:=cutB_short h _
def wholeB (s:ByteArray):ByteArray:=(piecesB s).foldl (fun o p=>o++frameOf p) (frameOf (putGot (numV ((piecesB s).length:Int))).1)
def callS (d:Dk) (what:Int) (nm more:ByteArray):Dk × Int :=
 if (callK d what nm more).2=0∨(callK d what nm more).2=132 then callK d what nm more else (d,(callK d what nm more).2)
structure Stp where
 what:Int
 nm:ByteArray
 more:ByteArray
def stepsS:Dk→List Stp→Dk × Int
 | d,[]=>(d,0)
 | d,s :: r=>if (callS d s.what s.nm s.more).2=0 then stepsS (callS d s.what s.nm s.more).1 r else callS d s.what s.nm s.more
def logN:ByteArray:=⟨#[108,111,103]⟩
def newN:ByteArray:=⟨#[108,111,103,46,110,101,119]⟩
def noB:ByteArray:=⟨#[]⟩
def threeS (h:Hd):List Stp:=[⟨1,newN,wholeB (putH h).1⟩,⟨2,newN,noB⟩,⟨3,newN,logN⟩]
def anewS (d:Dk) (h:Hd):Dk × Int:=stepsS d (if atL d.files newN<0 then threeS h else ⟨4,newN,noB⟩ :: threeS h)
instance:DecidableEq Rc:=fun a b=>decidable_of_iff (a.term=b.term∧a.kind=b.kind∧a.data=b.data) ⟨fun ⟨h1,h2,h3⟩=>by obtain⟨x,y,z⟩:=a; obtain⟨p,q,r⟩:=b; dsimp only at h1 h2 h3; subst h1 h2 h3; rfl,fun h=>by subst h; exact⟨rfl,rfl,rfl⟩⟩
def sameN:List Rc→List Rc→Nat
 | x :: a,y :: b=>if x=y then sameN a b+1 else 0
 | _,_=>0
theorem sameN_le:∀ a b:List Rc,sameN a b≤a.length∧sameN a b≤b.length
 | [],b=>by simp [sameN]
 | x :: a,[]=>by simp [sameN]
 | x :: a,y :: b=>by
   have:=sameN_le a b
   unfold sameN
   split <;> simp <;> omega
theorem sameN_all:∀ a b:List Rc,(sameN a b=a.length∧sameN a b=b.length)↔a=b
 | [],[]=>by simp [sameN]
 | [],y :: b=>by simp [sameN]
 | x :: a,[]=>by simp [sameN]
 | x :: a,y :: b=>by
   have:=sameN_all a b
   unfold sameN
   split
   ·rename_i h; subst h; simp only [List.length_cons,Nat.add_right_cancel_iff,List.cons.injEq,true_and]; exact this
   ·rename_i h; simp [h]
def changeV (old now:Hd):V:=listV [numV now.term,numV now.vote,numV (now.base+(sameN old.recs now.recs:Int)),listV ((now.recs.drop (sameN old.recs now.recs)).map recV)]
def alikeH (old now:Hd):Prop:=old.base=now.base∧old.bt=now.bt∧old.snap=now.snap∧old.voters=now.voters
instance (old now:Hd):Decidable (alikeH old now):=by unfold alikeH; exact inferInstance
def appendS (d:Dk) (g:ByteArray):Dk × Int:=stepsS d [⟨1,logN,frameOf g⟩,⟨2,logN,noB⟩]
def goS (d:Dk) (old now:Hd):Dk × Int :=
 if atL d.files logN<0∨¬ alikeH old now then anewS d now
 else if old.term=now.term∧old.vote=now.vote∧sameN old.recs now.recs=old.recs.length∧sameN old.recs now.recs=now.recs.length then (d,0)
 else if (putGot (changeV old now)).2≠0∨65536<(putGot (changeV old now)).1.size then anewS d now
 else appendS d (putGot (changeV old now)).1
def saveS (d:Dk) (old now:Hd):Dk × Int :=
 if rightD d=false∨rightH old=false∨rightH now=false then (d,1)
 else if d.down=true then (d,132)
 else goS d old now
def sameH (old now:Hd):Prop:=old.term=now.term∧old.vote=now.vote∧old.snap=now.snap∧old.base=now.base∧old.bt=now.bt∧old.recs=now.recs∧old.voters=now.voters
instance (old now:Hd):Decidable (sameH old now):=by unfold sameH; exact inferInstance
def goR (d:Dk) (old now:Hd):Dk × Int :=
 if ¬ atL d.files logN<0∧sameH old now then (d,0)
 else if atL d.files logN<0∨((putGot (changeV old now)).2≠0∨65536<(putGot (changeV old now)).1.size)∨¬ alikeH old now then anewS d now
 else appendS d (putGot (changeV old now)).1
theorem goR_eq (d:Dk) (old now:Hd):goR d old now=goS d old now:=by
 unfold goR goS
 have hs:=sameN_all old.recs now.recs
 by_cases h1:atL d.files logN<0
 ·rw [if_neg (by simp [h1]),if_pos (.inl h1),if_pos (.inl h1)]
 ·by_cases h2:alikeH old now
  ·rw [if_neg (show ¬ (atL d.files logN<0∨¬ alikeH old now) from fun h=>h.elim h1 (fun k=>k h2))]
   by_cases h3:sameH old now
   ·rw [if_pos ⟨h1,h3⟩,if_pos ⟨h3.1,h3.2.1,hs.2 h3.2.2.2.2.2.1⟩]
   ·rw [if_neg (show ¬ (¬ atL d.files logN<0∧sameH old now) from fun h=>h3 h.2),if_neg (show ¬ (old.term=now.term∧old.vote=now.vote∧sameN old.recs now.recs=old.recs.length∧sameN old.recs now.recs=now.recs.length) from fun h=>h3 ⟨h.1,h.2.1,h2.2.2.1,h2.1,h2.2.1,hs.1 h.2.2,h2.2.2.2⟩)]
    by_cases h4:(putGot (changeV old now)).2≠0∨65536<(putGot (changeV old now)).1.size
    ·rw [if_pos (show atL d.files logN<0∨((putGot (changeV old now)).2≠0∨65536<(putGot (changeV old now)).1.size)∨¬ alikeH old now from .inr (.inl h4)),if_pos h4]
    ·rw [if_neg (show ¬ (atL d.files logN<0∨((putGot (changeV old now)).2≠0∨65536<(putGot (changeV old now)).1.size)∨¬ alikeH old now) from fun h=>h.elim h1 (fun k=>k.elim h4 (fun q=>q h2))),if_neg h4]
  ·rw [if_neg (show ¬ (¬ atL d.files logN<0∧sameH old now) from fun h=>h2 ⟨h.2.2.2.2.1,h.2.2.2.2.2.1,h.2.2.2.1,h.2.2.2.2.2.2.2⟩),if_pos (show atL d.files logN<0∨((putGot (changeV old now)).2≠0∨65536<(putGot (changeV old now)).1.size)∨¬ alikeH old now from .inr (.inr h2)),if_pos (show atL d.files logN<0∨¬ alikeH old now from .inr h2)]
end Go.Proofs.YtlpgbmaoenncjaaGreatDoor

namespace Go.Proofs.YtlpgbmaoenncjaaGreatDoor
open Go.RowKit
set_option linter.unusedVariables false
def joinB (l:List ByteArray):ByteArray:=l.foldl (fun o p=>o++p) ⟨#[]⟩
def behindH (h:Hd) (v:V):Hd:=⟨(fld v 0).n,(fld v 1).n,h.base,h.bt,h.recs.take ((fld v 2).n - h.base).toNat++(fld v 3).l.map recRead,h.snap,h.voters⟩
def behindOk (h:Hd) (v:V):Prop:=v.k=3∧v.l.length=4∧(smallN (fld v 0)∧smallN (fld v 1)∧smallN (fld v 2))∧((fld v 3).k=3∧∀ x∈(fld v 3).l,recIs x)∧(h.base≤(fld v 2).n∧(fld v 2).n≤h.base+(h.recs.length:Int))∧rightH (behindH h v)=true
instance (h:Hd) (v:V):Decidable (behindOk h v):=by unfold behindOk; exact inferInstance
def behindB (h:Hd) (b:ByteArray):Option Hd:=if (getL b).bad=0∧behindOk h (getL b).v then some (behindH h (getL b).v) else none
def changeH (h:Hd) (v:V):Hd:=⟨cl (fld v 0).n,cl (fld v 1).n,h.base,h.bt,h.recs.take (cl (fld v 2).n - h.base).toNat++(fld v 3).l.map recCut,h.snap,h.voters⟩
def changeOk (h:Hd) (v:V):Prop:=v.k=3∧v.l.length=4∧((fld v 0).k=1∧(fld v 1).k=1∧(fld v 2).k=1)∧((fld v 3).k=3∧∀ x∈(fld v 3).l,recAll x)∧(0≤cl (fld v 2).n - h.base∧cl (fld v 2).n - h.base≤(h.recs.length:Int))∧rightH (changeH h v)=true
instance (h:Hd) (v:V):Decidable (changeOk h v):=by unfold changeOk; exact inferInstance
theorem right_log {h:Hd}(hr:rightH h=true):0≤h.base∧h.base+(h.recs.length:Int)≤1073741824:=by
 obtain⟨⟨-,-,⟨k3,k4,k5,k6,k7,k8,k9⟩,-,-⟩,-,-⟩:=shaped_in (rightH_shaped hr)
 omega
theorem behindB_right {h x:Hd}{b:ByteArray}(hb:behindB h b=some x):rightH x=true:=by
 unfold behindB at hb
 split at hb
 ·rename_i hc
  cases hb
  exact hc.2.2.2.2.2.2
 ·cases hb
def foldH:Hd→List ByteArray→Option Hd
 | h,[]=>some h
 | h,b :: r=>match behindB h b with
   | none=>none
   | some x=>foldH x r
theorem foldH_right:∀ (l:List ByteArray) (h x:Hd),rightH h=true→foldH h l=some x→rightH x=true
 | [],h,x,hr,e=>by cases e; exact hr
 | y :: l,h,x,hr,e=>by
   rw [foldH] at e
   cases hb:behindB h y with
   | none=>rw [hb] at e; cases e
   | some z=>rw [hb] at e; exact foldH_right l z x (behindB_right hb) e
def headOk (b:ByteArray) (m:Nat):Prop:=(getL b).bad=0∧(getL b).v.k=1∧(1≤(getL b).v.n∧(getL b).v.n≤9)∧(getL b).v.n≤(m:Int)
instance (b:ByteArray) (m:Nat):Decidable (headOk b m):=by unfold headOk; exact inferInstance
def cntB (b:ByteArray):Nat:=(getL b).v.n.toNat
def heldS:List ByteArray→Option Hd
 | []=>none
 | b :: r=>if headOk b r.length then (if (getH (joinB (r.take (cntB b)))).2=0∧piecesB (joinB (r.take (cntB b)))=r.take (cntB b) then foldH (getH (joinB (r.take (cntB b)))).1 (r.drop (cntB b)) else none) else none
theorem getH_right {s:ByteArray}(h:(getH s).2=0):rightH (getH s).1=true:=by
 unfold getH at h ⊢
 split at h
 ·rename_i hb; exact absurd h hb
 ·rename_i hb
  rw [if_neg hb]
  unfold readH at h ⊢
  split at h
  ·rename_i hm; rw [if_pos hm]; exact hm.2.2.2.2
  ·simp at h
theorem heldS_right {bs:List ByteArray}{x:Hd}(h:heldS bs=some x):rightH x=true:=by
 unfold heldS at h
 split at h
 ·cases h
 ·split at h
  ·split at h
   ·rename_i hk; exact foldH_right _ _ _ (getH_right hk.1) h
   ·cases h
  ·cases h
end Go.Proofs.YtlpgbmaoenncjaaGreatDoor

namespace Go.Proofs.YtlpgbmaoenncjaaGreatDoor
open Go.RowKit
set_option linter.unusedVariables false
def framesL (bs:List ByteArray):List UInt8:=(bs.map fun b=>frameL b.data.toList).flatten
def LogIs (c:List UInt8) (h:Hd):Prop:=∃ bs:List ByteArray,c=framesL bs∧(∀ b∈bs,b.size≤65536)∧heldS bs=some h
theorem LogIs.right {c:List UInt8}{h:Hd}(hl:LogIs c h):rightH h=true:=by
 obtain⟨bs,-,-,he⟩:=hl
 exact heldS_right he
theorem cutB_size:∀ (f:Nat) (s:ByteArray),s.size≤f→∀ p∈cutB f s,p.size≤60000
 | 0,s,h,p,hp=>by simp [cutB] at hp; subst hp; omega
 | f+1,s,h,p,hp=>by
   rw [cutB] at hp
   split at hp
   ·rcases List.mem_cons.1 hp with rfl | hp
    ·rw [ByteArray.size_extract]; omega
    ·exact cutB_size f _ (by rw [ByteArray.size_extract]; omega) p hp
   ·rename_i h2
    simp at hp
    subst hp
    omega
theorem pieces_size (s:ByteArray):∀ p∈piecesB s,p.size≤60000:=cutB_size _ s (Nat.le_refl _)
theorem pieces_pos (s:ByteArray):1≤(piecesB s).length:=by
 by_cases h:60000<s.size
 ·rw [pieces_long h,List.length_cons]; omega
 ·rw [pieces_short (Nat.le_of_not_lt h)]; exact Nat.le_refl 1
theorem rest_size (s:ByteArray):(s.extract 60000 s.size).size=s.size - 60000:=by rw [ByteArray.size_extract]; omega
theorem pieces_few {s:ByteArray}(h:s.size≤131072):(piecesB s).length≤3:=by
 by_cases h1:60000<s.size
 ·rw [pieces_long h1,List.length_cons]
  have hz:=rest_size s
  generalize s.extract 60000 s.size=t at *
  by_cases h2:60000<t.size
  ·have hz2:=rest_size t
   rw [pieces_long h2,List.length_cons,pieces_short (s:=t.extract 60000 t.size) (by omega),List.length_singleton]
   omega
  ·rw [pieces_short (Nat.le_of_not_lt h2),List.length_singleton]; omega
 ·rw [pieces_short (Nat.le_of_not_lt h1),List.length_singleton]; omega
theorem putGot_one:putGot (numV 1)=(⟨#[105,49,101]⟩,0):=by decide +kernel
theorem putGot_two:putGot (numV 2)=(⟨#[105,50,101]⟩,0):=by decide +kernel
theorem putGot_three:putGot (numV 3)=(⟨#[105,51,101]⟩,0):=by decide +kernel
theorem count_got {k:Nat}(h1:1≤k) (h3:k≤3):∃ b:ByteArray,putGot (numV (k:Int))=(b,0)∧b.size=3∧getL b=⟨numV (k:Int),0,0⟩:=by
 obtain rfl | rfl | rfl:k=1∨k=2∨k=3:=by omega
 ·exact⟨_,putGot_one,rfl,(put_back (numV_inR (by omega) (by omega)) putGot_one).1⟩
 ·exact⟨_,putGot_two,rfl,(put_back (numV_inR (by omega) (by omega)) putGot_two).1⟩
 ·exact⟨_,putGot_three,rfl,(put_back (numV_inR (by omega) (by omega)) putGot_three).1⟩
theorem putH_size {h:Hd}(hr:rightH h=true):(putH h).1.size≤131072:=by
 have hp:=rightH_put hr
 have hs:=rightH_shaped hr
 generalize (putH h).1=s at *
 unfold putH at hp
 rw [if_pos hs] at hp
 split at hp
 ·exact absurd (congrArg Prod.snd hp) (by simp)
 ·exact (put_back (hdV_inR hs) hp).2.2.2.1
theorem changeV_inR {old now:Hd}(ho:rightH old=true) (hr:rightH now=true):(changeV old now).InR:=by
 obtain⟨⟨k1,k2,-,-,-⟩,-,hc⟩:=shaped_in (rightH_shaped hr)
 have hl:=right_log hr
 have hn:=sameN_le old.recs now.recs
 unfold changeV
 refine listV_inR fun x hx=>?_
 simp only [List.mem_cons,List.mem_nil_iff,or_false] at hx
 rcases hx with rfl | rfl | rfl | rfl
 ·exact numV_inR (by omega) (by omega)
 ·exact numV_inR (by omega) (by omega)
 ·exact numV_inR (by omega) (by omega)
 ·refine listV_inR fun x hx=>?_
  obtain⟨r,hr2,rfl⟩:=List.mem_map.1 hx
  have h2:=hc r (List.mem_of_mem_drop hr2)
  unfold recV
  refine listV_inR fun y hy=>?_
  simp only [List.mem_cons,List.mem_nil_iff,or_false] at hy
  rcases hy with rfl | rfl | rfl
  ·exact numV_inR (by omega) (by omega)
  ·exact numV_inR (by omega) (by omega)
  ·exact textV_inR _
end Go.Proofs.YtlpgbmaoenncjaaGreatDoor

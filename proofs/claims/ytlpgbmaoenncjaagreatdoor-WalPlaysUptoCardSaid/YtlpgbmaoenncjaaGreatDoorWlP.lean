/-
  States that last, as values and as bytes, in plain Lean: what is put is got again, and the other way round; without a condition.
-/
import Derived.Test.YtlpgbmaoenncjaaGreatDoorPvs
namespace Go.Proofs.YtlpgbmaoenncjaaGreatDoor
open Go.RowKit
set_option linter.unusedVariables false
structure Hd where
 term:Int
 vote:Int
 base:Int
 bt:Int
 recs:List Rc
 snap:ByteArray
 voters:List Int
def Hd.zero:Hd:=⟨0,0,0,0,[],⟨#[]⟩,[]⟩
def goodW (top bt:Int) (l:List Rc) (i:Nat):Bool:=match l[i]? with
 | none=>true
 | some r=>decide (termAt bt l i≤r.term∧r.term≤top∧0≤r.kind∧r.kind≤2∧r.data.size≤8192)
def rowsW (top bt:Int) (l:List Rc):Bool:=(List.range l.length).all (goodW top bt l)
def votersW (l:List Int):Bool:=(List.range l.length).all (goodV l)
def headL (base bt term:Int) (n:Nat):Prop:=0≤base∧base≤1073741824∧0≤bt∧bt≤term∧(base=0↔bt=0)∧n≤200∧base≤1073741824 - (n:Int)
instance (base bt term:Int) (n:Nat):Decidable (headL base bt term n):=by unfold headL; exact inferInstance
def headW (h:Hd):Prop:=(0≤h.term∧h.term≤1073741824)∧(0≤h.vote∧h.vote≤9)∧headL h.base h.bt h.term h.recs.length∧h.voters.length≤7∧h.snap.size≤131072
instance (h:Hd):Decidable (headW h):=by unfold headW; exact inferInstance
def shapedH (h:Hd):Bool:=decide (headW h)&&rowsW h.term h.bt h.recs&&votersW h.voters
theorem goodW_is (top bt:Int) (l:List Rc) (i:Nat) (h:i<l.length):goodW top bt l i=decide (termAt bt l i≤l[i].term∧l[i].term≤top∧0≤l[i].kind∧l[i].kind≤2∧l[i].data.size≤8192):=by
 unfold goodW
 rw [List.getElem?_eq_getElem h]
def hdV (h:Hd):V:=listV [numV h.term,numV h.vote,numV h.base,numV h.bt,textV h.snap,listV (h.voters.map numV),listV (h.recs.map recV)]
def putH (h:Hd):ByteArray × Int:=if shapedH h=true then (if (putGot (hdV h)).2≠0 then (⟨#[]⟩,1) else putGot (hdV h)) else (⟨#[]⟩,1)
def rightH (h:Hd):Bool:=decide ((putH h).2=0)
theorem votersW_in {l:List Int}(h:votersW l=true):∀ x∈l,1≤x∧x≤9:=by
 intro x hx
 obtain⟨i,hi,rfl⟩:=List.getElem_of_mem hx
 unfold votersW at h
 have h2:=List.all_eq_true.1 h i (List.mem_range.2 hi)
 rw [goodV_is l i hi,Bool.and_eq_true] at h2
 exact of_decide_eq_true h2.1
theorem rowsW_in {t b:Int}{l:List Rc}(h:rowsW t b l=true):∀ r∈l,(1≤r.term∧r.term≤t)∧(0≤r.kind∧r.kind≤2)∧r.data.size≤8192:=by
 intro x hx
 obtain⟨i,hi,rfl⟩:=List.getElem_of_mem hx
 unfold rowsW at h
 have h2:=List.all_eq_true.1 h i (List.mem_range.2 hi)
 rw [goodW_is t b l i hi] at h2
 have h3:=of_decide_eq_true h2
 have h4:1≤termAt b l i:=by
  unfold termAt
  cases i with
  | zero=>dsimp only; omega
  | succ j=>dsimp only; rw [List.getElem?_eq_getElem (show j<l.length by omega)]; dsimp only; omega
 exact⟨⟨by omega,h3.2.1⟩,⟨h3.2.2.1,h3.2.2.2.1⟩,h3.2.2.2.2⟩
theorem shaped_in {h:Hd}(hs:shapedH h=true):headW h∧(∀ x∈h.voters,1≤x∧x≤9)∧(∀ r∈h.recs,(1≤r.term∧r.term≤1073741824)∧(0≤r.kind∧r.kind≤2)∧r.data.size≤8192):=by
 unfold shapedH at hs
 rw [Bool.and_eq_true,Bool.and_eq_true] at hs
 have h1:=of_decide_eq_true hs.1.1
 refine⟨h1,votersW_in hs.2,fun r hr=>?_⟩
 have h2:=rowsW_in hs.1.2 r hr
 have h3:=h1.1
 exact⟨⟨h2.1.1,by omega⟩,h2.2⟩
theorem rightH_shaped {h:Hd}(hr:rightH h=true):shapedH h=true:=by
 unfold rightH putH at hr
 cases hs:shapedH h with
 | true=>rfl
 | false=>rw [hs,if_neg (by simp)] at hr; simp at hr
def hdRead (v:V):Hd:=⟨(fld v 0).n,(fld v 1).n,(fld v 2).n,(fld v 3).n,(fld v 6).l.map recRead,(fld v 4).s,(fld v 5).l.map V.n⟩
def headH (v:V):Prop:=v.k=3∧v.l.length=7∧(fld v 4).k=2∧(fld v 5).k=3∧(fld v 6).k=3
instance (v:V):Decidable (headH v):=by unfold headH; exact inferInstance
def firstH (v:V):Prop:=smallN (fld v 0)∧smallN (fld v 1)∧smallN (fld v 2)∧smallN (fld v 3)
instance (v:V):Decidable (firstH v):=by unfold firstH; exact inferInstance
def hdOk (v:V):Prop:=headH v∧firstH v∧(∀ x∈(fld v 5).l,smallN x)∧(∀ x∈(fld v 6).l,recIs x)∧rightH (hdRead v)=true
instance (v:V):Decidable (hdOk v):=by unfold hdOk; exact inferInstance
def readH (v:V):Hd × Int:=if hdOk v then (hdRead v,0) else (Hd.zero,1)
def getH (s:ByteArray):Hd × Int:=if (getL s).bad≠0 then (Hd.zero,(getL s).bad) else readH (getL s).v
def hdCut (v:V):Hd:=⟨cl (fld v 0).n,cl (fld v 1).n,cl (fld v 2).n,cl (fld v 3).n,(fld v 6).l.map recCut,(fld v 4).s,(fld v 5).l.map (fun x=>cl x.n)⟩
def firstN (v:V):Prop:=(fld v 0).k=1∧(fld v 1).k=1∧(fld v 2).k=1∧(fld v 3).k=1
instance (v:V):Decidable (firstN v):=by unfold firstN; exact inferInstance
def recAll (x:V):Prop:=x.k=3∧x.l.length=3∧(fld x 0).k=1∧(fld x 1).k=1∧(fld x 2).k=2
instance (v:V):Decidable (recAll v):=by unfold recAll; exact inferInstance
def hdNum (v:V):Prop:=headH v∧firstN v∧(∀ x∈(fld v 5).l,x.k=1)∧(∀ x∈(fld v 6).l,recAll x)∧rightH (hdCut v)=true
instance (v:V):Decidable (hdNum v):=by unfold hdNum; exact inferInstance
def readHN (v:V):Hd × Int:=if hdNum v then (hdCut v,0) else (Hd.zero,1)
theorem cut_readH {v:V}(h:rightH (hdCut v)=true):hdCut v=hdRead v∧(∀ x∈(fld v 5).l,0≤x.n∧x.n≤1073741824)∧(∀ x∈(fld v 6).l,(0≤(fld x 0).n∧(fld x 0).n≤1073741824)∧(0≤(fld x 1).n∧(fld x 1).n≤1073741824)) ∧
 ((0≤(fld v 0).n∧(fld v 0).n≤1073741824)∧(0≤(fld v 1).n∧(fld v 1).n≤1073741824)∧(0≤(fld v 2).n∧(fld v 2).n≤1073741824)∧(0≤(fld v 3).n∧(fld v 3).n≤1073741824)):=by
 obtain⟨⟨k1,k2,⟨k3,k4,k5,k6,-,-,-⟩,-,-⟩,hv,hr⟩:=shaped_in (rightH_shaped h)
 simp only [hdCut] at k1 k2 k3 k4 k5 k6
 have e0:=cl_in (n:=(fld v 0).n) (by omega) (by omega)
 have e1:=cl_in (n:=(fld v 1).n) (by omega) (by omega)
 have e2:=cl_in (n:=(fld v 2).n) (by omega) (by omega)
 have e3:=cl_in (n:=(fld v 3).n) (by omega) (by omega)
 have hv2:∀ x∈(fld v 5).l,0≤x.n∧x.n≤1073741824∧cl x.n=x.n:=by
  intro x hx
  have h2:=hv (cl x.n) (List.mem_map.2 ⟨x,hx,rfl⟩)
  exact cl_in (by omega) (by omega)
 have hr2:∀ x∈(fld v 6).l,(0≤(fld x 0).n∧(fld x 0).n≤1073741824∧cl (fld x 0).n=(fld x 0).n)∧(0≤(fld x 1).n∧(fld x 1).n≤1073741824∧cl (fld x 1).n=(fld x 1).n):=by
  intro x hx
  have h2:=hr (recCut x) (List.mem_map.2 ⟨x,hx,rfl⟩)
  simp only [recCut] at h2
  exact⟨cl_in (by omega) (by omega),cl_in (by omega) (by omega)⟩
 refine⟨?_,fun x hx=>⟨(hv2 x hx).1,(hv2 x hx).2.1⟩,fun x hx=>⟨⟨(hr2 x hx).1.1,(hr2 x hx).1.2.1⟩,⟨(hr2 x hx).2.1,(hr2 x hx).2.2.1⟩⟩,by omega⟩
 unfold hdCut hdRead
 rw [e0.2.2,e1.2.2,e2.2.2,e3.2.2,map_same (g:=recRead) (fun x hx=>by unfold recCut recRead; rw [(hr2 x hx).1.2.2,(hr2 x hx).2.2.2]),map_same (g:=V.n) (fun x hx=>(hv2 x hx).2.2)]
theorem readHN_eq (v:V):readHN v=readH v:=by
 have hiff:hdNum v↔hdOk v:=by
  unfold hdNum hdOk
  constructor
  ·rintro⟨h1,h2,h3,h4,h5⟩
   obtain⟨c1,c2,c3,c4⟩:=cut_readH h5
   unfold firstN at h2
   refine⟨h1,by unfold firstH smallN; omega,fun x hx=>⟨h3 x hx,c2 x hx⟩,fun x hx=>?_,by rw [← c1]; exact h5⟩
   have:=h4 x hx
   have h6:=c3 x hx
   unfold recAll at this
   unfold recIs smallN
   omega
  ·rintro⟨h1,h2,h3,h4,h5⟩
   unfold firstH smallN at h2
   have hc:hdCut v=hdRead v:=by
    unfold hdCut hdRead
    rw [cl_of (n:=(fld v 0).n) (by omega) (by omega),cl_of (n:=(fld v 1).n) (by omega) (by omega),cl_of (n:=(fld v 2).n) (by omega) (by omega),cl_of (n:=(fld v 3).n) (by omega) (by omega),
     map_same (f:=recCut) (g:=recRead) (fun x hx=>by
      have:=h4 x hx
      unfold recIs smallN at this
      unfold recCut recRead; rw [cl_of (n:=(fld x 0).n) (by omega) (by omega),cl_of (n:=(fld x 1).n) (by omega) (by omega)]),map_same (f:=fun x=>cl x.n) (g:=V.n) (fun x hx=>by have:=h3 x hx; unfold smallN at this; exact cl_of (by omega) (by omega))]
   refine⟨h1,by unfold firstN; omega,fun x hx=>(h3 x hx).1,fun x hx=>?_,by rw [hc]; exact h5⟩
   have:=h4 x hx
   unfold recIs smallN at this
   unfold recAll
   omega
 unfold readHN readH
 by_cases h:hdNum v
 ·rw [if_pos h,if_pos (hiff.1 h),(cut_readH h.2.2.2.2).1]
 ·rw [if_neg h,if_neg (fun h2=>h (hiff.2 h2))]
theorem hdV_inR {h:Hd}(hs:shapedH h=true):(hdV h).InR:=by
 obtain⟨⟨k1,k2,⟨k3,k4,k5,k6,-,-,-⟩,-,-⟩,hv,hr⟩:=shaped_in hs
 unfold hdV
 refine listV_inR fun x hx=>?_
 simp only [List.mem_cons,List.mem_nil_iff,or_false] at hx
 rcases hx with rfl | rfl | rfl | rfl | rfl | rfl | rfl
 ·exact numV_inR (by omega) (by omega)
 ·exact numV_inR (by omega) (by omega)
 ·exact numV_inR (by omega) (by omega)
 ·exact numV_inR (by omega) (by omega)
 ·exact textV_inR _
 ·refine listV_inR fun y hy=>?_
  obtain⟨z,hz,rfl⟩:=List.mem_map.1 hy
  have:=hv z hz
  exact numV_inR (by omega) (by omega)
 ·refine listV_inR fun y hy=>?_
  obtain⟨z,hz,rfl⟩:=List.mem_map.1 hy
  have:=hr z hz
  exact recV_inR ⟨⟨by omega,by omega⟩,⟨by omega,by omega⟩⟩
theorem hdV_ok {h:Hd}(hr:rightH h=true):hdOk (hdV h)∧hdRead (hdV h)=h:=by
 obtain⟨⟨k1,k2,⟨k3,k4,k5,k6,-,-,-⟩,-,-⟩,hv,hc⟩:=shaped_in (rightH_shaped hr)
 have hread:hdRead (hdV h)=h:=by
  have e1:(h.recs.map recV).map recRead=h.recs:=by
   rw [List.map_map]
   conv=>rhs; rw [← List.map_id h.recs]
   exact map_same (fun x _=>rfl)
  have e2:(h.voters.map numV).map V.n=h.voters:=by
   rw [List.map_map]
   conv=>rhs; rw [← List.map_id h.voters]
   exact map_same (fun x _=>rfl)
  show Hd.mk h.term h.vote h.base h.bt ((h.recs.map recV).map recRead) h.snap ((h.voters.map numV).map V.n)=h
  rw [e1,e2]
 refine⟨⟨⟨rfl,rfl,rfl,rfl,rfl⟩,?_,?_,?_,by rw [hread]; exact hr⟩,hread⟩
 ·refine⟨⟨rfl,?_⟩,⟨rfl,?_⟩,⟨rfl,?_⟩,⟨rfl,?_⟩⟩
  ·show 0≤h.term∧h.term≤_; omega
  ·show 0≤h.vote∧h.vote≤_; omega
  ·show 0≤h.base∧h.base≤_; omega
  ·show 0≤h.bt∧h.bt≤_; omega
 ·intro x hx
  obtain⟨y,hy,rfl⟩:=List.mem_map.1 (show x∈h.voters.map numV from hx)
  have:=hv y hy
  exact⟨rfl,show 0≤y∧y≤_ by omega⟩
 ·intro x hx
  obtain⟨y,hy,rfl⟩:=List.mem_map.1 (show x∈h.recs.map recV from hx)
  have:=hc y hy
  exact⟨rfl,rfl,⟨rfl,show 0≤y.term∧y.term≤_ by omega⟩,⟨rfl,show 0≤y.kind∧y.kind≤_ by omega⟩,rfl⟩
theorem putH_got {h:Hd}{s:ByteArray}(hp:putH h=(s,0)):getH s=(h,0)∧rightH h=true:=by
 have hr:rightH h=true:=by unfold rightH; rw [hp]; rfl
 have hs:=rightH_shaped hr
 unfold putH at hp
 rw [if_pos hs] at hp
 split at hp
 ·exact absurd (congrArg Prod.snd hp) (by simp)
 ·obtain⟨h1,-⟩:=put_back (hdV_inR hs) hp
  obtain⟨h2,h3⟩:=hdV_ok hr
  refine⟨?_,hr⟩
  unfold getH
  rw [h1]
  dsimp only
  rw [if_neg (by simp)]
  unfold readH
  rw [if_pos h2,h3]
theorem rightH_put {h:Hd}(hr:rightH h=true):putH h=((putH h).1,0):=by
 unfold rightH at hr
 rw [← of_decide_eq_true hr]
end Go.Proofs.YtlpgbmaoenncjaaGreatDoor

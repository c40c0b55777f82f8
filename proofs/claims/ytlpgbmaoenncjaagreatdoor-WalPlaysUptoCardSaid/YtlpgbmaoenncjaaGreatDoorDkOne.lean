/-
  Disks in plain Lean: which may be, what a call makes of one, what a crash leaves; without a condition.
  Disks in plain Lean: the calls, the crash, and that what they leave may be; without a condition.
  Disks in plain Lean: what is read behind a crash; without a condition.
  Disks in memory: a file's three cells, a disk's value, a parameter that is a disk; a region that draws its order, whose callees make new blocks alone. Without a condition but for the sizes.
  The walks of isName, onlyOf, size and of the reference's Name and Size: new blocks alone are made; the sizes within reach.
  The walks of size and of the reference's Size: new blocks alone are made; the texts within reach.
  The walks of disk.Right and of the reference's: which disk may be; new blocks alone are made.
-/
import Derived.Test.YtlpgbmaoenncjaaGreatDoorGen
import Derived.Test.YtlpgbmaoenncjaaGreatDoorRows
import Derived.Lib.SmallJoins
import Derived.Deep.Quiet
import Derived.SizedLaws
import Derived.WalkSpells
import Derived.WalkLawsBesides
import Derived.Deep.LoopGhost
import Derived.BigQuiet
namespace Go.Proofs.YtlpgbmaoenncjaaGreatDoor
open Go.RowKit
set_option linter.unusedVariables false
structure Fl where
 nm:ByteArray
 sy:ByteArray
 ta:ByteArray
instance:Inhabited Fl:=⟨⟨⟨#[]⟩,⟨#[]⟩,⟨#[]⟩⟩⟩
structure Dk where
 room:Int
 files:List Fl
 left:Int
 down:Bool
def Dk.zero:Dk:=⟨0,[],0,false⟩
def okc (c:UInt8):Bool:=(decide (97≤c.toNat)&&decide (c.toNat≤122))||(decide (48≤c.toNat)&&decide (c.toNat≤57))||c==46
def onlyB (s:ByteArray):Bool:=s.data.toList.all okc
def nmOk (s:ByteArray):Bool:=onlyB s&&decide (1≤s.size)&&decide (s.size≤16)
def ltN (a b:ByteArray):Bool:=Op.bytesLess a.toList b.toList
def addTo (n k:Nat):Nat:=if n≤1048576 then n+k else n
def szTo (n:Nat) (f:Fl):Nat:=addTo (addTo n f.sy.size) f.ta.size
def szL (l:List Fl):Nat:=l.foldl szTo 0
def goodAt (l:List Fl) (i:Nat):Bool:=match l[i]? with
 | none=>true
 | some f=>nmOk f.nm&&(match i with
   | 0=>true
   | j+1=>match l[j]? with
     | none=>true
     | some g=>ltN g.nm f.nm)
def rightFs (l:List Fl):Bool:=(List.range l.length).all (goodAt l)
def numsOk (d:Dk):Bool:=decide (0≤d.room)&&decide (d.room≤1048576)&&decide (d.files.length≤8)&&decide (-1≤d.left)&&decide (d.left≤1073741824)
def rightD (d:Dk):Bool:=numsOk d&&decide ((szL d.files:Int)≤d.room)&&rightFs d.files
def atFrom (nm:ByteArray):List Fl→Nat→Int
 | [],_=>-1
 | f :: r,i=>if f.nm=nm then (i:Int) else atFrom nm r (i+1)
def atL (l:List Fl) (nm:ByteArray):Int:=atFrom nm l 0
def without (l:List Fl) (nm:ByteArray):List Fl:=l.filter fun f=>decide (f.nm≠nm)
def insF (x:Fl):List Fl→List Fl
 | []=>[x]
 | f :: r=>if ltN x.nm f.nm=true then x :: f :: r else f :: insF x r
def withF (l:List Fl) (x:Fl):List Fl:=insF x (without l x.nm)
theorem bytesLess_lt:∀ (x y:List UInt8),Op.bytesLess x y=decide (x<y)
 | [],[]=>by simp [Op.bytesLess]
 | _ :: _,[]=>by simp [Op.bytesLess]
 | [],_ :: _=>by simp [Op.bytesLess]
 | a :: x,b :: y=>by
   rw [Op.bytesLess,bytesLess_lt x y]
   simp only [List.cons_lt_cons_iff]
   by_cases h1:a<b <;> by_cases h2:a=b <;> by_cases h3:x<y <;> simp [h1,h2,h3]
theorem ltN_is (a b:ByteArray):ltN a b=decide (a.data.toList<b.data.toList):=by
 unfold ltN
 rw [bytesLess_lt,ByteArray.toList_eq,ByteArray.toList_eq]
theorem lt_irr (l:List UInt8):¬ l<l:=List.lt_irrefl l
theorem ltN_irrefl (a:ByteArray):ltN a a=false:=by
 rw [ltN_is]; exact decide_eq_false (lt_irr _)
theorem ltN_trans {a b c:ByteArray}(h:ltN a b=true) (k:ltN b c=true):ltN a c=true:=by
 rw [ltN_is] at *
 exact decide_eq_true (List.lt_trans (of_decide_eq_true h) (of_decide_eq_true k))
theorem ltN_asymm {a b:ByteArray}(h:ltN a b=true):ltN b a=false:=by
 cases hb:ltN b a with
 | false=>rfl
 | true=>have:=ltN_trans h hb; rw [ltN_irrefl] at this; cases this
theorem ltN_ne {a b:ByteArray}(h:ltN a b=true):a≠b:=fun e=>by subst e; rw [ltN_irrefl] at h; cases h
theorem ba_ext {a b:ByteArray}(h:a.data.toList=b.data.toList):a=b:=by
 obtain⟨⟨a⟩⟩:=a; obtain⟨⟨b⟩⟩:=b
 simp at h; rw [h]
theorem ltN_total {a b:ByteArray}(h:a≠b) (k:ltN a b=false):ltN b a=true:=by
 rw [ltN_is] at *
 refine decide_eq_true ?_
 have h1:¬ a.data.toList<b.data.toList:=of_decide_eq_false k
 have h2:b.data.toList≤a.data.toList:=List.not_lt.1 h1
 by_cases h3:b.data.toList<a.data.toList
 ·exact h3
 ·exact absurd (ba_ext (List.le_antisymm (List.not_lt.1 h3) h2)) h
def Rising (l:List Fl):Prop:=l.Pairwise fun f g=>ltN f.nm g.nm=true
theorem goodAt_is (l:List Fl) (i:Nat) (h:i<l.length):goodAt l i=(nmOk l[i].nm&&(decide (i=0)||ltN (l[i - 1]'(by omega)).nm l[i].nm)):=by
 unfold goodAt
 rw [List.getElem?_eq_getElem h]
 cases i with
 | zero=>simp
 | succ j=>simp [List.getElem?_eq_getElem (show j<l.length by omega)]
theorem rightFs_iff (l:List Fl):rightFs l=true↔(∀ f∈l,nmOk f.nm=true)∧Rising l:=by
 unfold rightFs
 rw [List.all_eq_true]
 constructor
 ·intro h
  have hg:∀ i (hi:i<l.length),nmOk l[i].nm=true∧(0<i→ltN (l[i - 1]'(by omega)).nm l[i].nm=true):=by
   intro i hi
   have:=h i (List.mem_range.2 hi)
   rw [goodAt_is l i hi,Bool.and_eq_true,Bool.or_eq_true,decide_eq_true_eq] at this
   exact⟨this.1,fun h0=>this.2.resolve_left (by omega)⟩
  refine⟨fun f hf=>?_,List.pairwise_iff_getElem.2 fun i j hi hj hij=>?_⟩
  ·obtain⟨i,hi,rfl⟩:=List.getElem_of_mem hf
   exact (hg i hi).1
  ·have key:∀ d j (hj:j<l.length),j=i+1+d→ltN l[i].nm l[j].nm=true:=by
    intro d
    induction d with
    | zero=>intro j hj e; subst e; exact (hg (i+1) hj).2 (by omega)
    | succ d ih =>
      intro j hj e
      have h1:=ih (i+1+d) (by omega) rfl
      have h2:=(hg j hj).2 (by omega)
      have e2:j - 1=i+1+d:=by omega
      simp only [e2] at h2
      exact ltN_trans h1 h2
   exact key (j - (i+1)) j hj (by omega)
 ·intro ⟨h1,h2⟩ i hi
  have hi:=List.mem_range.1 hi
  rw [goodAt_is l i hi,Bool.and_eq_true,Bool.or_eq_true,decide_eq_true_eq]
  refine⟨h1 _ (List.getElem_mem hi),?_⟩
  by_cases h0:i=0
  ·exact .inl h0
  ·exact .inr (List.pairwise_iff_getElem.1 h2 (i - 1) i (by omega) hi (by omega))
theorem atFrom_some (nm:ByteArray):∀ (l:List Fl) (i:Nat),(∃ (k:Nat) (h:k<l.length),l[k].nm=nm∧(∀ j (hj:j<l.length),j<k→l[j].nm≠nm)∧atFrom nm l i=((i+k:Nat):Int))∨((∀ f∈l,f.nm≠nm)∧atFrom nm l i = -1)
 | [],i=>.inr ⟨fun f h=>(by cases h),rfl⟩
 | f :: r,i=>by
   by_cases hf:f.nm=nm
   ·exact .inl ⟨0,by simp,hf,fun j _ hj=>absurd hj (Nat.not_lt_zero _),by rw [atFrom,if_pos hf]; rfl⟩
   ·rcases atFrom_some nm r (i+1) with ⟨k,hk,h1,h2,h3⟩ | ⟨h1,h2⟩
    ·refine .inl ⟨k+1,by simpa using hk,by simpa using h1,fun j hj hjk=>?_,by rw [atFrom,if_neg hf,h3]; congr 1; omega⟩
     cases j with
     | zero=>exact hf
     | succ j=>simpa using h2 j (by simpa using hj) (by omega)
    ·refine .inr ⟨fun g hg=>?_,by rw [atFrom,if_neg hf,h2]⟩
     rcases List.mem_cons.1 hg with rfl | hg
     ·exact hf
     ·exact h1 g hg
theorem atL_cases (l:List Fl) (nm:ByteArray):(∃ (k:Nat) (h:k<l.length),l[k].nm=nm∧(∀ j (hj:j<l.length),j<k→l[j].nm≠nm)∧atL l nm=(k:Int))∨((∀ f∈l,f.nm≠nm)∧atL l nm = -1):=by
 have:=atFrom_some nm l 0
 simpa [atL] using this
theorem without_none {l:List Fl}{nm:ByteArray}(h:∀ f∈l,f.nm≠nm):without l nm=l:=by
 unfold without
 rw [List.filter_eq_self]
 intro f hf
 simpa using h f hf
theorem rising_ne {l:List Fl}(h:Rising l) {i j:Nat}(hi:i<l.length) (hj:j<l.length) (hij:i≠j):l[i].nm≠l[j].nm:=by
 rcases Nat.lt_or_gt_of_ne hij with h1 | h1
 ·exact ltN_ne (List.pairwise_iff_getElem.1 h i j hi hj h1)
 ·exact (ltN_ne (List.pairwise_iff_getElem.1 h j i hj hi h1)).symm
theorem without_at {l:List Fl}(h:Rising l) {k:Nat}(hk:k<l.length):without l l[k].nm=l.take k++l.drop (k+1):=by
 unfold without
 have e:l=l.take k++l[k] :: l.drop (k+1):=by rw [← List.drop_eq_getElem_cons hk,List.take_append_drop]
 have h1:∀ f∈l.take k,f.nm≠l[k].nm:=by
  intro f hf
  obtain⟨j,hj,rfl⟩:=List.getElem_of_mem hf
  rw [List.getElem_take]
  rw [List.length_take] at hj
  exact rising_ne h (by omega) hk (by omega)
 have h2:∀ f∈l.drop (k+1),f.nm≠l[k].nm:=by
  intro f hf
  obtain⟨j,hj,rfl⟩:=List.getElem_of_mem hf
  rw [List.getElem_drop]
  rw [List.length_drop] at hj
  exact rising_ne h (by omega) hk (by omega)
 generalize hx:l[k]=x at *
 generalize l.take k=a at *
 generalize l.drop (k+1)=b at *
 subst e
 rw [List.filter_append,List.filter_cons,List.filter_eq_self.2 fun f hf=>by simpa using h1 f hf,List.filter_eq_self.2 fun f hf=>by simpa using h2 f hf]
 simp
theorem insF_at {x:Fl}:∀ {l:List Fl}{k:Nat},k≤l.length→(∀ j (hj:j<l.length),j<k→ltN x.nm l[j].nm=false)→(∀ (hk:k<l.length),ltN x.nm l[k].nm=true)→insF x l=l.take k++x :: l.drop k
 | [],k,hk,_,_=>by
   have:k=0:=by simpa using hk
   subst this
   rfl
 | f :: r,0,_,_,h=>by
   have:=h (by simp)
   rw [insF,if_pos (by simpa using this)]
   rfl
 | f :: r,k+1,hk,h1,h2=>by
   have h0:=h1 0 (by simp) (by omega)
   rw [insF,if_neg (by simp at h0; simp [h0])]
   have ih:=insF_at (x:=x) (l:=r) (k:=k) (by simpa using hk) (fun j hj hjk=>h1 (j+1) (by simpa using hj) (by omega)) (fun hk2=>h2 (by simpa using hk2))
   rw [ih]
   rfl
theorem withF_set {l:List Fl}(h:Rising l) {k:Nat}(hk:k<l.length) {x:Fl}(hx:x.nm=l[k].nm):withF l x=l.set k x:=by
 unfold withF
 rw [hx,without_at h hk]
 have hl:(l.take k).length=k:=by rw [List.length_take]; omega
 rw [insF_at (k:=k) (by rw [List.length_append,hl]; omega) (fun j hj hjk=>?_) (fun hk2=>?_)]
 ·rw [List.take_append_of_le_length (by omega),List.drop_append_of_le_length (by omega),List.take_of_length_le (by omega),List.drop_of_length_le (by omega),List.nil_append,List.set_eq_take_append_cons_drop,if_pos hk]
 ·rw [List.getElem_append_left (by omega),List.getElem_take,hx]
  exact ltN_asymm (List.pairwise_iff_getElem.1 h j k (by omega) hk hjk)
 ·rw [List.getElem_append_right (by omega),List.getElem_drop,hx]
  rw [List.length_append,hl,List.length_drop] at hk2
  exact List.pairwise_iff_getElem.1 h k _ hk (by omega) (by omega)
theorem insF_mem {x f:Fl}:∀ {l:List Fl},f∈insF x l↔f=x∨f∈l
 | []=>by simp [insF]
 | g :: r=>by
   rw [insF]
   split
   ·simp
   ·rw [List.mem_cons,insF_mem,List.mem_cons]
    constructor
    ·rintro (h | h | h)
     ·exact .inr (.inl h)
     ·exact .inl h
     ·exact .inr (.inr h)
    ·rintro (h | h | h)
     ·exact .inr (.inl h)
     ·exact .inl h
     ·exact .inr (.inr h)
theorem insF_rising {x:Fl}:∀ {l:List Fl},Rising l→(∀ f∈l,f.nm≠x.nm)→Rising (insF x l)
 | [],_,_=>by simp [insF,Rising]
 | g :: r,h,hn=>by
   unfold Rising at h
   rw [List.pairwise_cons] at h
   rw [insF]
   split
   ·rename_i hlt
    unfold Rising
    rw [List.pairwise_cons,List.pairwise_cons]
    refine⟨fun f hf=>?_,h⟩
    rcases List.mem_cons.1 hf with rfl | hf
    ·exact hlt
    ·exact ltN_trans hlt (h.1 f hf)
   ·rename_i hlt
    have hg:ltN g.nm x.nm=true:=ltN_total (fun e=>hn g (List.mem_cons_self ..) e.symm) (by simpa using hlt)
    unfold Rising
    rw [List.pairwise_cons]
    refine⟨fun f hf=>?_,insF_rising h.2 fun f hf=>hn f (List.mem_cons_of_mem _ hf)⟩
    rcases insF_mem.1 hf with rfl | hf
    ·exact hg
    ·exact h.1 f hf
theorem without_rising {l:List Fl}(h:Rising l) (nm:ByteArray):Rising (without l nm):=h.sublist (List.filter_sublist ..)
theorem without_ne {l:List Fl}{nm:ByteArray}:∀ f∈without l nm,f.nm≠nm:=by
 intro f hf
 have:=(List.mem_filter.1 hf).2
 simpa using this
theorem withF_rising {l:List Fl}(h:Rising l) (x:Fl):Rising (withF l x):=insF_rising (without_rising h _) without_ne
theorem insF_perm (x:Fl):∀ l:List Fl,(insF x l).Perm (x :: l)
 | []=>by simp [insF]
 | g :: r=>by
   rw [insF]
   split
   ·exact List.Perm.refl _
   ·exact ((insF_perm x r).cons g).trans (List.Perm.swap x g r)
theorem addTo_ge (n k:Nat):n≤addTo n k:=by unfold addTo; split <;> omega
theorem addTo_sum {n k:Nat}(h:addTo n k≤1048576):addTo n k=n+k:=by
 unfold addTo at *
 by_cases hn:n≤1048576
 ·rw [if_pos hn]
 ·rw [if_neg hn] at h; omega
theorem addTo_of {n k:Nat}(h:n+k≤1048576):addTo n k=n+k:=if_pos (by omega)
theorem szFold_ge:∀ (l:List Fl) (n:Nat),n≤l.foldl szTo n
 | [],n=>Nat.le_refl _
 | f :: r,n=>by
   rw [List.foldl_cons]
   exact Nat.le_trans (Nat.le_trans (addTo_ge _ _) (addTo_ge _ _)) (szFold_ge r _)
def szS (l:List Fl):Nat:=(l.map fun f=>f.sy.size+f.ta.size).sum
theorem szS_cons (f:Fl) (r:List Fl):szS (f :: r)=f.sy.size+f.ta.size+szS r:=by simp [szS]
theorem szFold_sum:∀ (l:List Fl) (n:Nat),l.foldl szTo n≤1048576→l.foldl szTo n=n+szS l
 | [],n,_=>by simp [szS]
 | f :: r,n,h=>by
   rw [List.foldl_cons] at h ⊢
   have h1:=Nat.le_trans (szFold_ge r (szTo n f)) h
   rw [szFold_sum r _ h,szS_cons]
   unfold szTo at h1 ⊢
   have h2:=Nat.le_trans (addTo_ge _ _) h1
   rw [addTo_sum h1,addTo_sum h2]
   omega
theorem szFold_of:∀ (l:List Fl) (n:Nat),n+szS l≤1048576→l.foldl szTo n=n+szS l
 | [],n,_=>by simp [szS]
 | f :: r,n,h=>by
   rw [szS_cons] at h ⊢
   rw [List.foldl_cons]
   have h1:szTo n f=n+(f.sy.size+f.ta.size):=by
    unfold szTo
    rw [addTo_of (show n+f.sy.size≤1048576 by omega),addTo_of (by omega)]
    omega
   rw [h1,szFold_of r _ (by omega)]
   omega
theorem szL_sum {l:List Fl}(h:szL l≤1048576):szL l=szS l:=by
 unfold szL at *
 rw [szFold_sum l 0 h,Nat.zero_add]
theorem szL_of {l:List Fl}(h:szS l≤1048576):szL l=szS l:=by
 unfold szL
 rw [szFold_of l 0 (by omega),Nat.zero_add]
end Go.Proofs.YtlpgbmaoenncjaaGreatDoor

namespace Go.Proofs.YtlpgbmaoenncjaaGreatDoor
open Go.RowKit
set_option linter.unusedVariables false
def fileOf (l:List Fl) (nm:ByteArray):Fl:=if 0≤atL l nm then l.getD (atL l nm).toNat default else ⟨nm,⟨#[]⟩,⟨#[]⟩⟩
def wrote (l:List Fl) (nm more:ByteArray):List Fl:=withF l ⟨nm,(fileOf l nm).sy,(fileOf l nm).ta++more⟩
def synced (l:List Fl) (nm:ByteArray):List Fl:=withF l ⟨nm,(fileOf l nm).sy++(fileOf l nm).ta,⟨#[]⟩⟩
def renamed (l:List Fl) (nm to:ByteArray):List Fl:=withF (without l nm) ⟨to,(fileOf l nm).sy,(fileOf l nm).ta⟩
def leftD (d:Dk):Int:=if 0<d.left then d.left - 1 else d.left
def doneD (d:Dk) (now thn:List Fl):Dk × Int:=if d.left=0 then (⟨d.room,thn,0,true⟩,132) else (⟨d.room,now,leftD d,d.down⟩,0)
def readyD (d:Dk) (nms:List ByteArray):Int:=if rightD d=false∨nms.all nmOk=false then 1 else if d.down=true then 132 else 0
def writeD (d:Dk) (nm more:ByteArray):Dk × Int :=
 if readyD d [nm]≠0 then (Dk.zero,readyD d [nm])
 else if (atL d.files nm<0∧8≤d.files.length)∨d.room - (szL d.files:Int)<(more.size:Int) then (Dk.zero,130)
 else doneD d (wrote d.files nm more) (wrote d.files nm more)
def syncD (d:Dk) (nm:ByteArray):Dk × Int :=
 if readyD d [nm]≠0 then (Dk.zero,readyD d [nm])
 else if atL d.files nm<0 then (Dk.zero,60)
 else doneD d (synced d.files nm) d.files
def renameD (d:Dk) (nm to:ByteArray):Dk × Int :=
 if readyD d [nm,to]≠0 then (Dk.zero,readyD d [nm,to])
 else if atL d.files nm<0 then (Dk.zero,60)
 else if (fileOf d.files nm).ta.size≠0 then (Dk.zero,131)
 else doneD d (renamed d.files nm to) d.files
def removeD (d:Dk) (nm:ByteArray):Dk × Int :=
 if readyD d [nm]≠0 then (Dk.zero,readyD d [nm])
 else if atL d.files nm<0 then (Dk.zero,60)
 else doneD d (without d.files nm) d.files
def readD (d:Dk) (nm:ByteArray):ByteArray × Int :=
 if readyD d [nm]≠0 then (⟨#[]⟩,readyD d [nm])
 else if atL d.files nm<0 then (⟨#[]⟩,60)
 else ((fileOf d.files nm).sy++(fileOf d.files nm).ta,0)
def cutD (d:Dk) (left:Int):Dk × Int :=
 if rightD d=false∨left < -1∨1073741824<left then (Dk.zero,1)
 else if d.down=true then (Dk.zero,132)
 else (⟨d.room,d.files,left,d.down⟩,0)
def keepN (keep:List Int) (i:Nat) (f:Fl):Nat:=match keep[i]? with
 | none=>0
 | some k=>min k.toNat f.ta.size
def crashF (keep:List Int):Nat→List Fl→List Fl
 | _,[]=>[]
 | i,f :: r=>⟨f.nm,f.sy++f.ta.extract 0 (keepN keep i f),⟨#[]⟩⟩ :: crashF keep (i+1) r
def crashed (d:Dk) (keep:List Int):Dk:=⟨d.room,crashF keep 0 d.files,-1,false⟩
def crashD (d:Dk) (keep:List Int):Dk × Int:=if rightD d=false then (Dk.zero,1) else (crashed d keep,0)
theorem rightD_nums {d:Dk}(h:rightD d=true):(0≤d.room∧d.room≤1048576)∧d.files.length≤8∧(-1≤d.left∧d.left≤1073741824):=by
 unfold rightD numsOk at h
 simp only [Bool.and_eq_true,decide_eq_true_eq] at h
 exact⟨⟨h.1.1.1.1.1.1,h.1.1.1.1.1.2⟩,h.1.1.1.1.2,h.1.1.1.2,h.1.1.2⟩
theorem rightD_fs {d:Dk}(h:rightD d=true):(∀ f∈d.files,nmOk f.nm=true)∧Rising d.files:=by
 unfold rightD at h
 rw [Bool.and_eq_true] at h
 exact (rightFs_iff _).1 h.2
theorem rightD_size {d:Dk}(h:rightD d=true):szL d.files=szS d.files∧(szS d.files:Int)≤d.room:=by
 have h1:=rightD_nums h
 unfold rightD at h
 simp only [Bool.and_eq_true,decide_eq_true_eq] at h
 have h2:szL d.files=szS d.files:=szL_sum (by omega)
 exact⟨h2,by omega⟩
theorem rightD_mk {d:Dk}(h0:0≤d.room) (h1:d.room≤1048576) (h2:d.files.length≤8) (h3:-1≤d.left) (h4:d.left≤1073741824) (h5:(szS d.files:Int)≤d.room) (h6:∀ f∈d.files,nmOk f.nm=true) (h7:Rising d.files):rightD d=true:=by
 unfold rightD numsOk
 rw [szL_of (by omega)]
 simp only [Bool.and_eq_true,decide_eq_true_eq]
 exact⟨⟨⟨⟨⟨⟨h0,h1⟩,h2⟩,h3⟩,h4⟩,h5⟩,(rightFs_iff _).2 ⟨h6,h7⟩⟩
theorem atL_lt {l:List Fl}{nm:ByteArray}(h:¬ atL l nm<0):∃ (k:Nat) (hk:k<l.length),atL l nm=(k:Int)∧l[k].nm=nm∧fileOf l nm=l[k]:=by
 rcases atL_cases l nm with ⟨k,hk,h1,_,h3⟩ | ⟨_,h2⟩
 ·refine⟨k,hk,h3,h1,?_⟩
  unfold fileOf
  rw [if_pos (by omega),h3]
  simp [hk]
 ·rw [h2] at h; exact absurd (by decide) h
theorem atL_no {l:List Fl}{nm:ByteArray}(h:atL l nm<0):(∀ f∈l,f.nm≠nm)∧fileOf l nm=⟨nm,⟨#[]⟩,⟨#[]⟩⟩∧without l nm=l:=by
 rcases atL_cases l nm with ⟨k,hk,h1,_,h3⟩ | ⟨h1,h2⟩
 ·rw [h3] at h; omega
 ·refine⟨h1,?_,without_none h1⟩
  unfold fileOf
  rw [if_neg (by omega)]
theorem szS_append (a b:List Fl):szS (a++b)=szS a+szS b:=by simp [szS]
theorem szS_perm {a b:List Fl}(h:a.Perm b):szS a=szS b:=(h.map _).sum_nat
theorem szS_split {l:List Fl}{k:Nat}(hk:k<l.length):szS l=szS (l.take k++l.drop (k+1))+(l[k].sy.size+l[k].ta.size):=by
 have e:l=l.take k++l[k] :: l.drop (k+1):=by rw [← List.drop_eq_getElem_cons hk,List.take_append_drop]
 have:=congrArg szS e
 rw [szS_append,szS_cons] at this
 rw [szS_append]
 omega
theorem szS_without {l:List Fl}(h:Rising l) {k:Nat}(hk:k<l.length):szS (without l l[k].nm)+(l[k].sy.size+l[k].ta.size)=szS l:=by
 rw [without_at h hk,← szS_split hk]
theorem szS_with (l:List Fl) (x:Fl):szS (withF l x)=szS (without l x.nm)+(x.sy.size+x.ta.size):=by
 rw [withF,szS_perm (insF_perm x _),szS_cons]
 omega
theorem szS_without_le (l:List Fl) (nm:ByteArray):szS (without l nm)≤szS l:=by
 induction l with
 | nil=>exact Nat.le_refl _
 | cons f r ih =>
   unfold without at *
   rw [List.filter_cons,szS_cons]
   split
   ·rw [szS_cons]; omega
   ·omega
theorem len_with (l:List Fl) (x:Fl):(withF l x).length=(without l x.nm).length+1:=by
 rw [withF,(insF_perm x _).length_eq,List.length_cons]
theorem len_without {l:List Fl}(h:Rising l) {k:Nat}(hk:k<l.length):(without l l[k].nm).length+1=l.length:=by
 rw [without_at h hk,List.length_append,List.length_take,List.length_drop]
 omega
theorem len_without_le (l:List Fl) (nm:ByteArray):(without l nm).length≤l.length:=List.length_filter_le ..
theorem mem_with {l:List Fl}{x f:Fl}(h:f∈withF l x):f=x∨f∈l:=by
 rcases insF_mem.1 h with h | h
 ·exact .inl h
 ·exact .inr (List.mem_filter.1 h).1
theorem done_right {d:Dk}(h:rightD d=true) {now thn:List Fl}(h1:∀ fs,fs=now∨fs=thn→fs.length≤8∧(szS fs:Int)≤d.room∧(∀ f∈fs,nmOk f.nm=true)∧Rising fs):rightD (doneD d now thn).1=true:=by
 obtain⟨⟨a0,a1⟩,-,b0,b1⟩:=rightD_nums h
 unfold doneD
 split
 ·obtain⟨c1,c2,c3,c4⟩:=h1 thn (.inr rfl)
  exact rightD_mk a0 a1 c1 (by show (-1:Int)≤0; decide) (by show (0:Int)≤1073741824; decide) c2 c3 c4
 ·obtain⟨c1,c2,c3,c4⟩:=h1 now (.inl rfl)
  refine rightD_mk a0 a1 c1 ?_ ?_ c2 c3 c4
  ·show -1≤leftD d; unfold leftD; split <;> omega
  ·show leftD d≤1073741824; unfold leftD; split <;> omega
theorem ready_parts {d:Dk}{nms:List ByteArray}(h:readyD d nms=0):rightD d=true∧nms.all nmOk=true∧d.down=false:=by
 unfold readyD at h
 split at h
 ·exact absurd h (by decide)
 ·rename_i h1
  split at h
  ·exact absurd h (by decide)
  ·rename_i h2
   refine⟨?_,?_,by simpa using h2⟩
   ·cases hr:rightD d
    ·exact absurd (.inl hr) h1
    ·rfl
   ·cases hr:nms.all nmOk
    ·exact absurd (.inr hr) h1
    ·rfl
theorem zero_right:rightD Dk.zero=true:=by decide +kernel
theorem append_size (a b:ByteArray):(a++b).size=a.size+b.size:=ByteArray.size_append
theorem write_right {d:Dk}{nm more:ByteArray}:rightD (writeD d nm more).1=true:=by
 unfold writeD
 split
 ·exact zero_right
 ·rename_i hr
  obtain⟨h,h2,h3⟩:=ready_parts (by simpa using hr)
  split
  ·exact zero_right
  ·rename_i hf
   obtain⟨h4,h5⟩:=rightD_fs h
   obtain⟨h6,h7⟩:=rightD_size h
   obtain⟨-,h8,-⟩:=rightD_nums h
   refine done_right h fun fs hfs=>?_
   have hfs:fs=wrote d.files nm more:=by rcases hfs with h | h <;> exact h
   subst hfs
   unfold wrote
   have hnm:nmOk nm=true:=by simpa using h2
   have hroom:(szS d.files:Int)+(more.size:Int)≤d.room:=by
    have:¬ d.room - (szL d.files:Int)<(more.size:Int):=fun e=>hf (.inr e)
    omega
   refine⟨?_,?_,fun f hm=>?_,withF_rising h5 _⟩
   ·rw [len_with]
    by_cases ha:atL d.files nm<0
    ·have:¬ 8≤d.files.length:=fun e=>hf (.inl ⟨ha,e⟩)
     have:=len_without_le d.files nm
     dsimp only
     omega
    ·obtain⟨k,hk,_,he,_⟩:=atL_lt ha
     have:=len_without h5 hk
     rw [he] at this
     dsimp only
     omega
   ·rw [szS_with]
    dsimp only
    rw [append_size]
    by_cases ha:atL d.files nm<0
    ·obtain⟨_,hn,hw⟩:=atL_no ha
     rw [hn,hw]
     dsimp only
     have:(⟨#[]⟩:ByteArray).size=0:=rfl
     omega
    ·obtain⟨k,hk,_,he,hn⟩:=atL_lt ha
     have:=szS_without h5 hk
     rw [he] at this
     rw [hn]
     omega
   ·rcases mem_with hm with rfl | hm
    ·exact hnm
    ·exact h4 f hm
theorem sync_right {d:Dk}{nm:ByteArray}:rightD (syncD d nm).1=true:=by
 unfold syncD
 split
 ·exact zero_right
 ·rename_i hr
  obtain⟨h,h2,h3⟩:=ready_parts (by simpa using hr)
  split
  ·exact zero_right
  ·rename_i ha
   obtain⟨h4,h5⟩:=rightD_fs h
   obtain⟨h6,h7⟩:=rightD_size h
   obtain⟨-,h8,-⟩:=rightD_nums h
   obtain⟨k,hk,_,he,hn⟩:=atL_lt ha
   refine done_right h fun fs hfs=>?_
   rcases hfs with rfl | rfl
   ·unfold synced
    refine⟨?_,?_,fun f hm=>?_,withF_rising h5 _⟩
    ·rw [len_with]
     have:=len_without h5 hk
     rw [he] at this
     dsimp only
     omega
    ·rw [szS_with]
     dsimp only
     rw [append_size,hn]
     have:=szS_without h5 hk
     rw [he] at this
     have:(⟨#[]⟩:ByteArray).size=0:=rfl
     omega
    ·rcases mem_with hm with rfl | hm
     ·simpa using h2
     ·exact h4 f hm
   ·exact⟨h8,h7,h4,h5⟩
theorem rename_right {d:Dk}{nm to:ByteArray}:rightD (renameD d nm to).1=true:=by
 unfold renameD
 split
 ·exact zero_right
 ·rename_i hr
  obtain⟨h,h2,h3⟩:=ready_parts (by simpa using hr)
  split
  ·exact zero_right
  ·rename_i ha
   split
   ·exact zero_right
   ·obtain⟨h4,h5⟩:=rightD_fs h
    obtain⟨h6,h7⟩:=rightD_size h
    obtain⟨-,h8,-⟩:=rightD_nums h
    obtain⟨k,hk,_,he,hn⟩:=atL_lt ha
    have hto:nmOk to=true:=by
     simp only [List.all_cons,List.all_nil,Bool.and_true,Bool.and_eq_true] at h2
     exact h2.2
    refine done_right h fun fs hfs=>?_
    rcases hfs with rfl | rfl
    ·unfold renamed
     refine⟨?_,?_,fun f hm=>?_,withF_rising (without_rising h5 _) _⟩
     ·rw [len_with]
      have:=len_without h5 hk
      rw [he] at this
      have:=len_without_le (without d.files nm) to
      dsimp only
      omega
     ·rw [szS_with]
      dsimp only
      rw [hn]
      have:=szS_without h5 hk
      rw [he] at this
      have:=szS_without_le (without d.files nm) to
      omega
     ·rcases mem_with hm with rfl | hm
      ·exact hto
      ·exact h4 f (List.mem_filter.1 hm).1
    ·exact⟨h8,h7,h4,h5⟩
theorem remove_right {d:Dk}{nm:ByteArray}:rightD (removeD d nm).1=true:=by
 unfold removeD
 split
 ·exact zero_right
 ·rename_i hr
  obtain⟨h,h2,h3⟩:=ready_parts (by simpa using hr)
  split
  ·exact zero_right
  ·obtain⟨h4,h5⟩:=rightD_fs h
   obtain⟨h6,h7⟩:=rightD_size h
   obtain⟨-,h8,-⟩:=rightD_nums h
   refine done_right h fun fs hfs=>?_
   rcases hfs with rfl | rfl
   ·refine⟨?_,?_,fun f hm=>h4 f (List.mem_filter.1 hm).1,without_rising h5 _⟩
    ·have:=len_without_le d.files nm; omega
    ·have:=szS_without_le d.files nm; omega
   ·exact⟨h8,h7,h4,h5⟩
theorem crashF_length (keep:List Int):∀ (i:Nat) (l:List Fl),(crashF keep i l).length=l.length
 | _,[]=>rfl
 | i,f :: r=>by rw [crashF,List.length_cons,List.length_cons,crashF_length]
theorem crashF_get (keep:List Int):∀ (i:Nat) (l:List Fl) (j:Nat) (h:j<l.length),(crashF keep i l)[j]? = some ⟨l[j].nm,l[j].sy++l[j].ta.extract 0 (keepN keep (i+j) l[j]),⟨#[]⟩⟩
 | i,f :: r,0,_=>rfl
 | i,f :: r,j+1,h=>by
   rw [crashF,List.getElem?_cons_succ,crashF_get keep (i+1) r j (by simpa using h)]
   simp only [List.getElem_cons_succ]
   rw [show i+1+j=i+(j+1) by omega]
theorem crashF_size (keep:List Int):∀ (i:Nat) (l:List Fl),szS (crashF keep i l)≤szS l
 | _,[]=>Nat.le_refl _
 | i,f :: r=>by
   rw [crashF,szS_cons,szS_cons]
   have:=crashF_size keep (i+1) r
   dsimp only
   rw [append_size,ByteArray.size_extract]
   have h0:(⟨#[]⟩:ByteArray).size=0:=rfl
   rw [h0]
   have:min (keepN keep i f) f.ta.size≤f.ta.size:=Nat.min_le_right _ _
   omega
theorem crashF_nm (keep:List Int):∀ (i:Nat) (l:List Fl),(crashF keep i l).map (·.nm)=l.map (·.nm)
 | _,[]=>rfl
 | i,f :: r=>by rw [crashF,List.map_cons,List.map_cons,crashF_nm]
theorem rising_nm {a b:List Fl}(h:a.map (·.nm)=b.map (·.nm)) (hb:Rising b):Rising a:=by
 unfold Rising at *
 rw [← List.pairwise_map (f:=fun f:Fl=>f.nm) (R:=fun x y=>ltN x y=true)] at hb ⊢
 rw [h]
 exact hb
theorem crash_right {d:Dk}(h:rightD d=true) (keep:List Int):rightD (crashed d keep)=true:=by
 obtain⟨⟨a0,a1⟩,h8,b0,b1⟩:=rightD_nums h
 obtain⟨h4,h5⟩:=rightD_fs h
 obtain⟨h6,h7⟩:=rightD_size h
 have hs:=crashF_size keep 0 d.files
 refine rightD_mk a0 a1 (by show (crashF keep 0 d.files).length≤8; rw [crashF_length]; exact h8) (by show (-1:Int) ≤ -1; decide) (by show (-1:Int)≤1073741824; decide) ?_ (fun f hf=>?_) (rising_nm (crashF_nm keep 0 d.files) h5)
 ·show (szS (crashF keep 0 d.files):Int)≤d.room
  omega
 ·have h1:f.nm∈(crashF keep 0 d.files).map (·.nm):=List.mem_map_of_mem hf
  rw [crashF_nm] at h1
  obtain⟨g,hg,he⟩:=List.mem_map.1 h1
  rw [← he]
  exact h4 g hg
end Go.Proofs.YtlpgbmaoenncjaaGreatDoor

namespace Go.Proofs.YtlpgbmaoenncjaaGreatDoor
open Go.RowKit
set_option linter.unusedVariables false
theorem append_nil (a:ByteArray):a++(⟨#[]⟩:ByteArray)=a:=by
 apply ba_ext
 simp
end Go.Proofs.YtlpgbmaoenncjaaGreatDoor

namespace Go.Proofs.YtlpgbmaoenncjaaGreatDoor
open Go.RowKit Go.ChangeShapes Go.WideShapes Go.Deep Go.Joins
set_option linter.unusedVariables false
set_option maxRecDepth 100000
def flE:Enc Fl where
 k:=3
 enc f:=[.string f.nm,.string f.sy,.string f.ta]
 len _:=rfl
 one f u hu:=by
  simp at hu
  rcases hu with rfl | rfl | rfl <;> rfl
 pos:=by decide
def Dk.val (d:Dk) (a:Option Addr) (n c:Nat):Value:=.agg #[.int .i64 d.room,.slice a n c,.int .i64 d.left,.bool d.down]
def Fl.small (f:Fl):Prop:=f.nm.size≤140737488355328∧f.sy.size≤140737488355328∧f.ta.size≤140737488355328
structure DkAt (w:World) (a:Option Addr) (n c:Nat) (d:Dk):Prop where
 sl:flE.Sl w a n d.files
 nc:n≤c
 cm:c≤maxLen
 cn:a=none→c=0
 nb:n≤4398046511104
 small:∀ f∈d.files,f.small
 rw:-9223372036854775808≤d.room∧d.room≤9223372036854775807
 lw:-9223372036854775808≤d.left∧d.left≤9223372036854775807
theorem DkAt.keep {w w':World}{a:Option Addr}{n c:Nat}{d:Dk}(h:DkAt w a n c d) (hb:Below w.heap.size w w'):DkAt w' a n c d:={ h with sl:=h.sl.keep hb }
theorem DkAt.len {w:World}{a:Option Addr}{n c:Nat}{d:Dk}(h:DkAt w a n c d):d.files.length=n:=h.sl.1.symm
section
variable {H:Type}{enc:TypeId × Value→H}{P:Program}{w:World}{base:Nat}{spare:Nat→Bool}{held:Bool}
end
end Go.Proofs.YtlpgbmaoenncjaaGreatDoor

namespace Go.Proofs.YtlpgbmaoenncjaaGreatDoor
open Go.RowKit
set_option linter.unusedVariables false
set_option maxRecDepth 100000
theorem okc_cases (c:UInt8):(okc c=true∧((97≤c.toNat∧c.toNat≤122)∨(48≤c.toNat∧c.toNat≤57)∨c.toNat=46))∨(okc c=false∧(c.toNat<46∨c.toNat=47∨(58≤c.toNat∧c.toNat<97)∨123≤c.toNat)):=by
 have h46:(c==46)=decide (c.toNat=46):=by
  rw [Bool.eq_iff_iff]; simp
  constructor
  ·intro h; subst h; rfl
  ·intro h; exact UInt8.toNat_inj.1 h
 unfold okc
 rw [h46]
 by_cases h1:97≤c.toNat <;> by_cases h2:c.toNat≤122 <;> by_cases h3:48≤c.toNat <;> by_cases h4:c.toNat≤57 <;> by_cases h5:c.toNat=46 <;> simp [h1,h2,h3,h4,h5] <;> omega
theorem onlyB_step {s:ByteArray}{k:Nat}(hk:k<s.size) (h:(s.data.toList.take k).all okc=true):(s.data.toList.take (k+1)).all okc=okc s[k]:=by
 rw [take_snoc s k hk,List.all_append,h]; simp
theorem onlyB_no {s:ByteArray}{k:Nat}(hk:k<s.size) (h:okc s[k]=false):onlyB s=false:=by
 unfold onlyB
 rw [List.all_eq_false]
 refine⟨s[k],?_,by simp [h]⟩
 rw [byte_at s k hk]
 exact List.getElem_mem _
set_option maxHeartbeats 1000000 in
theorem onlyOf_any (s:ByteArray) (hs:s.size≤maxLen) (w:World) (v:Bool) (hv:Hid (v=onlyB s)) :
 Calls Tryz.prog 143 #[.string s] w fun e w'=>e = .returned (.bool v)∧w=w':=by
 unfold maxLen at hs
 go_enter Tryz.func143,Tryz.ntmps143
 go_wp2
 go_loopg [3,4,7] s.size (fun gk v3 v4 i wr=>∃ k:Nat,k≤s.size∧gk=s.size - k∧i = .int .i64 k∧w=wr∧Hid ((s.data.toList.take k).all okc=true))
 case atStart=>exact⟨0,Nat.zero_le _,rfl,rfl,rfl,Lib.hid (by simp)⟩
 case round =>
  obtain⟨k,hk,rfl,rfl,rfl,ha⟩:=hrel
  by_cases hlt:k<s.size
  ·have hst:=onlyB_step hlt ha.out
   rcases okc_cases s[k] with ⟨h1,h2⟩ | ⟨h1,h2⟩
   ·rw [h1] at hst
    have hst:=Lib.hid hst
    clear h1 ha hv
    rcases h2 with ⟨h2,h3⟩ | ⟨h2,h3⟩ | h2
    ·have hq:((s[k].toNat:Int)==46)=false:=by rw [beq_eq_false_iff_ne]; omega
     go_wp2_with fail
     go_roundg (s.size - (k+1))
     case rel=>exact⟨k+1,by omega,rfl,by go_num,rfl,hst⟩
     case measure=>omega
    ·have hq:((s[k].toNat:Int)==46)=false:=by rw [beq_eq_false_iff_ne]; omega
     go_wp2_with fail
     go_roundg (s.size - (k+1))
     case rel=>exact⟨k+1,by omega,rfl,by go_num,rfl,hst⟩
     case measure=>omega
    ·have hq:((s[k].toNat:Int)==46)=true:=by rw [beq_iff_eq]; omega
     go_wp2_with fail
     go_roundg (s.size - (k+1))
     case rel=>exact⟨k+1,by omega,rfl,by go_num,rfl,hst⟩
     case measure=>omega
   ·have hno:=Lib.hid (onlyB_no hlt h1)
    clear h1 ha hst
    have hq:((s[k].toNat:Int)==46)=false:=by rw [beq_eq_false_iff_ne]; omega
    rcases h2 with h2 | h2 | ⟨h2,h3⟩ | h2
    all_goals
     first | (have hi:decide ((s[k].toNat:Int)≤122)=false:=by rw [decide_eq_false_iff_not]; omega) | skip
     first | (have hi:decide ((s[k].toNat:Int)≤57)=false:=by rw [decide_eq_false_iff_not]; omega) | skip
     go_wp2_with fail
     go_ret
     exact⟨ret_bool (by rw [hv.out,hno.out]),rfl⟩
  ·have hyes:=Lib.hid (show onlyB s=true by unfold onlyB; rw [← take_all s k hlt]; exact ha.out)
   go_wp2_with fail
   go_ret
   exact⟨ret_bool (by rw [hv.out,hyes.out]),rfl⟩
theorem nmOk_empty {s:ByteArray}(h:s.size=0):nmOk s=false:=by
 unfold nmOk
 simp [h]
theorem nmOk_long {s:ByteArray}(h:16<s.size):nmOk s=false:=by
 unfold nmOk
 rw [decide_eq_false (show ¬ s.size≤16 by omega),Bool.and_false]
theorem nmOk_mid {s:ByteArray}(h:s.size≠0) (h2:s.size≤16):nmOk s=onlyB s:=by
 unfold nmOk
 rw [decide_eq_true (show 1≤s.size by omega),decide_eq_true h2,Bool.and_true,Bool.and_true]
set_option maxHeartbeats 400000 in
theorem isName_any (s:ByteArray) (hs:s.size≤maxLen) (w:World) (v:Bool) (hv:Hid (v=nmOk s)) :
 Calls Tryz.prog 97 #[.string s] w fun e w'=>e = .returned (.bool v)∧w=w':=by
 by_cases h0:s.size=0
 ·have hf:=Lib.hid (hv.out.trans (nmOk_empty h0))
  have hs:s=⟨#[]⟩:=size0 h0
  subst hs
  clear hv h0
  go_enter Tryz.func97,Tryz.ntmps97
  go_wp2
  go_ret
  exact⟨ret_bool (by rw [hf.out]),rfl⟩
 ·have e1:=isEmpty_no h0
  have e2:=eqNil_no h0
  by_cases h16:s.size≤16
  ·have hc:=Lib.hid (onlyOf_any s hs w v (Lib.hid (hv.out.trans (nmOk_mid h0 h16))))
   have hi:(s.size:Int)≤16:=by omega
   clear hv h0
   go_enter Tryz.func97,Tryz.ntmps97
   go_wp2_with fail
   refine hc.out.mono ?_
   rintro e w1 ⟨rfl,rfl⟩
   go_wp2_with fail
   go_ret
   exact⟨rfl,rfl⟩
  ·have hf:=Lib.hid (hv.out.trans (nmOk_long (by omega)))
   have hi:(16:Int)<(s.size:Int):=by omega
   clear hv h0
   go_enter Tryz.func97,Tryz.ntmps97
   go_wp2_with fail
   go_ret
   exact⟨ret_bool (by rw [hf.out]),rfl⟩
end Go.Proofs.YtlpgbmaoenncjaaGreatDoor

namespace Go.Proofs.YtlpgbmaoenncjaaGreatDoor
open Go.RowKit
set_option linter.unusedVariables false
set_option maxRecDepth 100000
def FlC (w:World) (b off:Nat) (l:List Fl):Prop:=∀ k (h:k<l.length),w.cell? ⟨b,off+k*3,none⟩=some (.string l[k].nm)∧w.cell? ⟨b,off+k*3+1,none⟩=some (.string l[k].sy)∧w.cell? ⟨b,off+k*3+2,none⟩=some (.string l[k].ta)
theorem fl_at {w:World}{a:Option Addr}{n:Nat}{l:List Fl}(h:flE.Sl w a n l) (h0:0<n):n=l.length∧∃ b off,a=some ⟨b,off,none⟩∧FlC w b off l:=by
 obtain⟨h1,b,off,h2,h3⟩:=h.at h0
 exact⟨h1,b,off,h2,fun k hk=>⟨h3 k hk 0 _ rfl,h3 k hk 1 _ rfl,h3 k hk 2 _ rfl⟩⟩
theorem FlC.keep {w w':World}{b off:Nat}{l:List Fl}(h:FlC w b off l) (hb:Below w.heap.size w w'):FlC w' b off l :=
 fun k hk=>⟨cell_keep hb (h k hk).1,cell_keep hb (h k hk).2.1,cell_keep hb (h k hk).2.2⟩
theorem addTo_stop {n k:Nat}(h:1048576<n):addTo n k=n:=if_neg (by omega)
theorem szTo_stop {n:Nat}(f:Fl) (h:1048576<n):szTo n f=n:=by unfold szTo; rw [addTo_stop h,addTo_stop h]
theorem szFold_stop:∀ (l:List Fl) {n:Nat},1048576<n→l.foldl szTo n=n
 | [],n,_=>rfl
 | f :: r,n,h=>by rw [List.foldl_cons,szTo_stop f h]; exact szFold_stop r h
theorem szL_step {l:List Fl}{k x:Nat}(hk:k<l.length) (h:szL l=(l.drop k).foldl szTo x):szL l=(l.drop (k+1)).foldl szTo (szTo x l[k]):=by
 rw [h,List.drop_eq_getElem_cons hk,List.foldl_cons]
theorem szL_done {l:List Fl}{k x:Nat}(hk:k<l.length) (h:szL l=(l.drop k).foldl szTo x) (hx:1048576<szTo x l[k]):szL l=szTo x l[k]:=by
 rw [szL_step hk h,szFold_stop _ hx]
set_option maxHeartbeats 1000000 in
theorem size_any (a:Option Addr) (n c:Nat) (l:List Fl) (w:World) (h:flE.Sl w a n l) (hn:n≤4398046511104) (hs:∀ f∈l,f.small) (v:Nat) (hv:Hid (v=szL l)) :
 Calls Tryz.prog 96 #[.slice a n c] w fun e w'=>e = .returned (.int .i64 (v:Int))∧Below w.heap.size w w':=by
 by_cases h0:n=0
 ·subst h0
  have hd:l=[]:=List.eq_nil_of_length_eq_zero h.1.symm
  subst hd
  have hfin:=Lib.hid (show v=0 by rw [hv.out]; rfl)
  clear hv h hs
  go_enter Tryz.func96,Tryz.ntmps96
  go_wp2
  go_loop [3,8] (fun x i=>x = .int .i64 0∧i = .int .i64 0) (fun _ _=>0)
  case atStart=>exact⟨rfl,rfl⟩
  case round =>
   obtain⟨rfl,rfl⟩:=hrel
   go_wp2
   go_ret
   exact⟨ret_int (by rw [hfin.out]; rfl),Below.refl _ _⟩
 ·obtain⟨hnd,b,off,rfl,hcells⟩:=fl_at h (by omega)
  have HN:=Lib.hid hnd
  have HC:=Lib.hid hcells
  have HS:=Lib.hid hs
  clear h hnd hcells hs
  go_enter Tryz.func96,Tryz.ntmps96
  go_wp2
  go_loopg [3,5,8] n (fun gk sv v5 i wr=>∃ (k x:Nat),k≤n∧gk=n - k∧i = .int .i64 (k:Int)∧sv = .int .i64 (x:Int)∧x≤1048576∧Hid (Below w.heap.size w wr)∧Hid (szL l=(l.drop k).foldl szTo x))
  case atStart=>exact⟨0,0,Nat.zero_le _,rfl,rfl,rfl,Nat.zero_le _,Lib.hid (Below.refl _ _),Lib.hid rfl⟩
  case round =>
   obtain⟨k,x,hk,rfl,rfl,rfl,hxk,hB,hx⟩:=hrel
   by_cases hlt:k<n
   ·have hkd:k<l.length:=by rw [← HN.out]; exact hlt
    obtain⟨q0,q1,q2⟩:=HC.out k hkd
    have c0:=cell_keep hB.out q0
    have c1:=cell_keep hB.out q1
    have c2:=cell_keep hB.out q2
    have hki:(k:Int)<(n:Int):=by omega
    obtain⟨s0,s1,s2⟩:=HS.out l[k] (List.getElem_mem hkd)
    have hst:=szL_step hkd hx.out
    have hdn:=szL_done hkd hx.out
    have hB2:=hB.out.alloc hB.out.size (.cells #[.string l[k].nm,.string l[k].sy,.string l[k].ta] 55)
    have HB2:=Lib.hid hB2
    clear q0 q1 q2 hB2 hx hB
    generalize l[k]=o at *
    obtain⟨o0,o1,o2⟩:=o
    have s1:o1.size≤140737488355328:=s1
    have s2:o2.size≤140737488355328:=s2
    have hxi:(x:Int)≤1048576:=by omega
    unfold szTo addTo at hst hdn
    dsimp only at hst hdn
    rw [if_pos hxk] at hst hdn
    by_cases h1:x+o1.size≤1048576
    ·rw [if_pos h1] at hst hdn
     have h1i:(x:Int)+(o1.size:Int)≤1048576:=by omega
     by_cases h2:x+o1.size+o2.size≤1048576
     ·have h2i:(x:Int)+(o1.size:Int)+(o2.size:Int)≤1048576:=by omega
      have HST:=Lib.hid hst
      clear hst hdn h1 h2 hv
      go_wp2_with fail
      go_roundg (n - (k+1))
      case rel=>exact⟨k+1,x+o1.size+o2.size,by omega,rfl,by go_num,by go_num,by omega,HB2,HST⟩
      case measure=>omega
     ·have h2i:(1048576:Int)<(x:Int)+(o1.size:Int)+(o2.size:Int):=by omega
      have HST:=Lib.hid (hv.out.trans (hdn (by omega)))
      clear hst hdn h1 h2 hv
      go_wp2_with fail
      go_ret
      exact⟨ret_int (by rw [HST.out]; omega),HB2.out⟩
    ·have h1i:(1048576:Int)<(x:Int)+(o1.size:Int):=by omega
     rw [if_neg h1] at hst hdn
     have HST:=Lib.hid (hv.out.trans (hdn (by omega)))
     clear hst hdn h1 hv
     go_wp2_with fail
     go_ret
     exact⟨ret_int (by rw [HST.out]; omega),HB2.out⟩
   ·have hki:(n:Int)≤(k:Int):=by omega
    have hfin:=Lib.hid (show v=x by rw [hv.out,hx.out,List.drop_eq_nil_of_le (by have:=HN.out; omega)]; rfl)
    clear hv
    go_wp2_with fail
    go_ret
    exact⟨ret_int (by rw [hfin.out]),hB.out⟩
end Go.Proofs.YtlpgbmaoenncjaaGreatDoor

namespace Go.Proofs.YtlpgbmaoenncjaaGreatDoor
open Go.RowKit Go.BigFrame
set_option linter.unusedVariables false
set_option maxRecDepth 100000
theorem cell_new {w:World}{cs:Array Value}{T:TypeId}(i:Nat) {v:Value}(h:cs[i]? = some v):(w.alloc (.cells cs T)).cell? ⟨w.heap.size,i,none⟩=some v:=by
 have hb:(w.alloc (.cells cs T)).heap[w.heap.size]? = some (.cells cs T (0,0)):=heap_alloc_new w _
 rw [Lib.cell_of_heap hb i,h]
theorem numsOk_cases (r:Int) (l:List Fl) (lf:Int) (dn:Bool):(numsOk ⟨r,l,lf,dn⟩=true∧0≤r∧r≤1048576∧l.length≤8 ∧ -1≤lf∧lf≤1073741824)∨(numsOk ⟨r,l,lf,dn⟩=false ∧
 (r<0∨(0≤r∧1048576<r)∨(0≤r∧r≤1048576∧8<l.length)∨(0≤r∧r≤1048576∧l.length≤8∧lf < -1)∨(0≤r∧r≤1048576∧l.length≤8 ∧ -1≤lf∧1073741824<lf))):=by
 unfold numsOk
 by_cases h0:0≤r <;> by_cases h1:r≤1048576 <;> by_cases h2:l.length≤8 <;> by_cases h3:-1≤lf <;> by_cases h4:lf≤1073741824 <;> simp [h0,h1,h2,h3,h4] <;> omega
theorem rightFs_no {l:List Fl}{k:Nat}(hk:k<l.length) (h:goodAt l k=false):rightFs l=false:=by
 unfold rightFs
 rw [List.all_eq_false]
 exact⟨k,List.mem_range.2 hk,by rw [h]; decide⟩
theorem rightFs_yes {l:List Fl}(h:∀ j,j<l.length→goodAt l j=true):rightFs l=true:=by
 unfold rightFs
 rw [List.all_eq_true]
 exact fun j hj=>h j (List.mem_range.1 hj)
theorem goodAt_bad {l:List Fl}{k:Nat}(hk:k<l.length) (h:nmOk l[k].nm=false):goodAt l k=false:=by
 rw [goodAt_is l k hk,h,Bool.false_and]
theorem goodAt_first {l:List Fl}(hk:0<l.length) (h:nmOk l[0].nm=true):goodAt l 0=true:=by
 rw [goodAt_is l 0 hk,h]; simp
theorem goodAt_next {l:List Fl}{j:Nat}(hk:j+1<l.length) (h:nmOk l[j+1].nm=true):goodAt l (j+1)=ltN (l[j]'(by omega)).nm l[j+1].nm:=by
 rw [goodAt_is l (j+1) hk,h]; simp
set_option maxHeartbeats 2000000 in
theorem right_bad (a:Option Addr) (n c:Nat) (d:Dk) (w:World) (h:DkAt w a n c d) (hn:numsOk d=false) :
 Calls Tryz.prog 50 #[d.val a n c] w fun e w'=>e = .returned (.bool false)∧Below w.heap.size w w':=by
 obtain⟨r,l,lf,dn⟩:=d
 have hnb:=h.nb
 have hsl:flE.Sl w a n l:=h.sl
 have hsm:∀ f∈l,f.small:=h.small
 have hlen:l.length=n:=h.len
 have hnum:=numsOk_cases r l lf dn
 rw [hn,hlen] at hnum
 replace hnum:=hnum.resolve_left (by simp)
 replace hnum:=hnum.2
 unfold Dk.val
 dsimp only
 have hA:Below w.heap.size w (w.alloc (.cells #[.int .i64 r,.slice a n c,.int .i64 lf,.bool dn] 38)):=(Below.refl _ w).alloc (Nat.le_refl _) _
 have D0:(w.alloc (.cells #[.int .i64 r,.slice a n c,.int .i64 lf,.bool dn] 38)).cell? ⟨w.heap.size,0,none⟩=some (.int .i64 r):=cell_new (cs:=#[.int .i64 r,.slice a n c,.int .i64 lf,.bool dn]) 0 (v:=.int .i64 r) rfl
 have D1:(w.alloc (.cells #[.int .i64 r,.slice a n c,.int .i64 lf,.bool dn] 38)).cell? ⟨w.heap.size,1,none⟩=some (.slice a n c):=cell_new (cs:=#[.int .i64 r,.slice a n c,.int .i64 lf,.bool dn]) 1 (v:=.slice a n c) rfl
 have D2:(w.alloc (.cells #[.int .i64 r,.slice a n c,.int .i64 lf,.bool dn] 38)).cell? ⟨w.heap.size,2,none⟩=some (.int .i64 lf):=cell_new (cs:=#[.int .i64 r,.slice a n c,.int .i64 lf,.bool dn]) 2 (v:=.int .i64 lf) rfl
 have D3:(w.alloc (.cells #[.int .i64 r,.slice a n c,.int .i64 lf,.bool dn] 38)).cell? ⟨w.heap.size,3,none⟩=some (.bool dn):=cell_new (cs:=#[.int .i64 r,.slice a n c,.int .i64 lf,.bool dn]) 3 (v:=.bool dn) rfl
 have HA:=Lib.hid hA
 have HD:=Lib.hid (And.intro D0 (And.intro D1 (And.intro D2 D3)))
 clear D0 D1 D2 D3 hA
 clear h hsl hsm hn hlen
 rcases hnum with hq | ⟨hq0,hq⟩ | ⟨hq0,hq1,hq⟩ | ⟨hq0,hq1,hq2,hq⟩ | ⟨hq0,hq1,hq2,hq3,hq⟩
 ·have b0:decide (r<0)=true:=by rw [decide_eq_true_eq]; omega
  go_enter Tryz.func50,Tryz.ntmps50
  go_wp2_with fail
  obtain⟨E0,E1,E2,E3⟩:=HD.out
  generalize w.alloc (.cells #[.int .i64 r,.slice a n c,.int .i64 lf,.bool dn] 38)=W0 at E0 E1 E2 E3 HA ⊢
  have p0:=Bel.cell E0
  have p1:=Bel.cell E1
  have p2:=Bel.cell E2
  clear HD E0 E1 E2 E3
  refine wp_region_bel (by kernel_rfl) (by kernel_rfl) ?_
  repeat (go_big_quiet_step (fail))
  refine wpQuiet_nil ?_
  intro _ hw'
  obtain⟨⟨W2,hW2⟩,rfl⟩:=hw'
  go_wp2_with fail
  go_ret
  exact⟨rfl,below_then HA.out hW2 HA.out.size⟩
 ·have b0:decide (r<0)=false:=by rw [decide_eq_false_iff_not]; omega
  have b1:decide (1048576<r)=true:=by rw [decide_eq_true_eq]; omega
  go_enter Tryz.func50,Tryz.ntmps50
  go_wp2_with fail
  obtain⟨E0,E1,E2,E3⟩:=HD.out
  generalize w.alloc (.cells #[.int .i64 r,.slice a n c,.int .i64 lf,.bool dn] 38)=W0 at E0 E1 E2 E3 HA ⊢
  have p0:=Bel.cell E0
  have p1:=Bel.cell E1
  have p2:=Bel.cell E2
  clear HD E0 E1 E2 E3
  refine wp_region_bel (by kernel_rfl) (by kernel_rfl) ?_
  repeat (go_big_quiet_step (fail))
  refine wpQuiet_nil ?_
  intro _ hw'
  obtain⟨⟨W2,hW2⟩,rfl⟩:=hw'
  go_wp2_with fail
  go_ret
  exact⟨rfl,below_then HA.out hW2 HA.out.size⟩
 ·have b0:decide (r<0)=false:=by rw [decide_eq_false_iff_not]; omega
  have b1:decide (1048576<r)=false:=by rw [decide_eq_false_iff_not]; omega
  have b2:decide (8<(n:Int))=true:=by rw [decide_eq_true_eq]; omega
  go_enter Tryz.func50,Tryz.ntmps50
  go_wp2_with fail
  obtain⟨E0,E1,E2,E3⟩:=HD.out
  generalize w.alloc (.cells #[.int .i64 r,.slice a n c,.int .i64 lf,.bool dn] 38)=W0 at E0 E1 E2 E3 HA ⊢
  have p0:=Bel.cell E0
  have p1:=Bel.cell E1
  have p2:=Bel.cell E2
  clear HD E0 E1 E2 E3
  refine wp_region_bel (by kernel_rfl) (by kernel_rfl) ?_
  repeat (go_big_quiet_step (fail))
  refine wpQuiet_nil ?_
  intro _ hw'
  obtain⟨⟨W2,hW2⟩,rfl⟩:=hw'
  go_wp2_with fail
  go_ret
  exact⟨rfl,below_then HA.out hW2 HA.out.size⟩
 ·have b0:decide (r<0)=false:=by rw [decide_eq_false_iff_not]; omega
  have b1:decide (1048576<r)=false:=by rw [decide_eq_false_iff_not]; omega
  have b2:decide (8<(n:Int))=false:=by rw [decide_eq_false_iff_not]; omega
  have b3:decide (lf < -1)=true:=by rw [decide_eq_true_eq]; omega
  go_enter Tryz.func50,Tryz.ntmps50
  go_wp2_with fail
  obtain⟨E0,E1,E2,E3⟩:=HD.out
  generalize w.alloc (.cells #[.int .i64 r,.slice a n c,.int .i64 lf,.bool dn] 38)=W0 at E0 E1 E2 E3 HA ⊢
  have p0:=Bel.cell E0
  have p1:=Bel.cell E1
  have p2:=Bel.cell E2
  clear HD E0 E1 E2 E3
  refine wp_region_bel (by kernel_rfl) (by kernel_rfl) ?_
  repeat (go_big_quiet_step (fail))
  refine wpQuiet_nil ?_
  intro _ hw'
  obtain⟨⟨W2,hW2⟩,rfl⟩:=hw'
  go_wp2_with fail
  go_ret
  exact⟨rfl,below_then HA.out hW2 HA.out.size⟩
 ·have b0:decide (r<0)=false:=by rw [decide_eq_false_iff_not]; omega
  have b1:decide (1048576<r)=false:=by rw [decide_eq_false_iff_not]; omega
  have b2:decide (8<(n:Int))=false:=by rw [decide_eq_false_iff_not]; omega
  have b3:decide (lf < -1)=false:=by rw [decide_eq_false_iff_not]; omega
  have b4:decide (1073741824<lf)=true:=by rw [decide_eq_true_eq]; omega
  go_enter Tryz.func50,Tryz.ntmps50
  go_wp2_with fail
  obtain⟨E0,E1,E2,E3⟩:=HD.out
  generalize w.alloc (.cells #[.int .i64 r,.slice a n c,.int .i64 lf,.bool dn] 38)=W0 at E0 E1 E2 E3 HA ⊢
  have p0:=Bel.cell E0
  have p1:=Bel.cell E1
  have p2:=Bel.cell E2
  clear HD E0 E1 E2 E3
  refine wp_region_bel (by kernel_rfl) (by kernel_rfl) ?_
  repeat (go_big_quiet_step (fail))
  refine wpQuiet_nil ?_
  intro _ hw'
  obtain⟨⟨W2,hW2⟩,rfl⟩:=hw'
  go_wp2_with fail
  go_ret
  exact⟨rfl,below_then HA.out hW2 HA.out.size⟩
set_option maxHeartbeats 4000000 in
set_option maxRecDepth 20000 in
theorem right_good (a:Option Addr) (n c:Nat) (d:Dk) (w:World) (h:DkAt w a n c d) (hn:numsOk d=true) (v:Bool) (hv:Hid (v=rightD d)) :
 Calls Tryz.prog 50 #[d.val a n c] w fun e w'=>e = .returned (.bool v)∧Below w.heap.size w w':=by
 obtain⟨r,l,lf,dn⟩:=d
 have hnb:=h.nb
 have hsl:flE.Sl w a n l:=h.sl
 have hsm:∀ f∈l,f.small:=h.small
 have hlen:l.length=n:=h.len
 have hnum:=numsOk_cases r l lf dn
 rw [hn,hlen] at hnum
 replace hnum:=hnum.resolve_right (by simp)
 obtain⟨-,hq0,hq1,hq2,hq3,hq4⟩:=hnum
 replace hv:v=(decide ((szL l:Int)≤r)&&rightFs l):=by rw [hv.out]; unfold rightD; rw [hn,Bool.true_and]
 unfold Dk.val
 dsimp only
 have HSL:=Lib.hid hsl
 have HSM:=Lib.hid hsm
 have HNB:=Lib.hid hnb
 have HV:=Lib.hid hv
 have HL:=Lib.hid hlen
 have hA:Below w.heap.size w (w.alloc (.cells #[.int .i64 r,.slice a n c,.int .i64 lf,.bool dn] 38)):=(Below.refl _ w).alloc (Nat.le_refl _) _
 have D0:(w.alloc (.cells #[.int .i64 r,.slice a n c,.int .i64 lf,.bool dn] 38)).cell? ⟨w.heap.size,0,none⟩=some (.int .i64 r):=cell_new (cs:=#[.int .i64 r,.slice a n c,.int .i64 lf,.bool dn]) 0 (v:=.int .i64 r) rfl
 have D1:(w.alloc (.cells #[.int .i64 r,.slice a n c,.int .i64 lf,.bool dn] 38)).cell? ⟨w.heap.size,1,none⟩=some (.slice a n c):=cell_new (cs:=#[.int .i64 r,.slice a n c,.int .i64 lf,.bool dn]) 1 (v:=.slice a n c) rfl
 have D2:(w.alloc (.cells #[.int .i64 r,.slice a n c,.int .i64 lf,.bool dn] 38)).cell? ⟨w.heap.size,2,none⟩=some (.int .i64 lf):=cell_new (cs:=#[.int .i64 r,.slice a n c,.int .i64 lf,.bool dn]) 2 (v:=.int .i64 lf) rfl
 have D3:(w.alloc (.cells #[.int .i64 r,.slice a n c,.int .i64 lf,.bool dn] 38)).cell? ⟨w.heap.size,3,none⟩=some (.bool dn):=cell_new (cs:=#[.int .i64 r,.slice a n c,.int .i64 lf,.bool dn]) 3 (v:=.bool dn) rfl
 have HA:=Lib.hid hA
 have HD:=Lib.hid (And.intro D0 (And.intro D1 (And.intro D2 D3)))
 clear D0 D1 D2 D3 hA
 have b0:decide (r<0)=false:=by rw [decide_eq_false_iff_not]; omega
 have b1:decide (1048576<r)=false:=by rw [decide_eq_false_iff_not]; omega
 have b2:decide (8<(n:Int))=false:=by rw [decide_eq_false_iff_not]; omega
 have b3:decide (lf < -1)=false:=by rw [decide_eq_false_iff_not]; omega
 have b4:decide (1073741824<lf)=false:=by rw [decide_eq_false_iff_not]; omega
 have hsz:=Lib.hid (fun (p:Bel (w.alloc (.cells #[.int .i64 r,.slice a n c,.int .i64 lf,.bool dn] 38)))=>size_any a n c l p.val (hsl.keep (below_then HA.out p.bel HA.out.size)) hnb hsm (szL l) (Lib.hid rfl))
 clear h hsl hsm hn hlen hnb hv hq0 hq1 hq2 hq3 hq4
 by_cases hs:(szL l:Int)≤r
 rotate_left
 ·have HF:=Lib.hid (show false=v by rw [HV.out,decide_eq_false hs,Bool.false_and])
  clear HV
  have b5:decide (r<(szL l:Int))=true:=by rw [decide_eq_true_eq]; omega
  clear hs
  generalize szL l=z at *
  go_enter Tryz.func50,Tryz.ntmps50
  go_wp2_with fail
  obtain⟨E0,E1,E2,E3⟩:=HD.out
  generalize w.alloc (.cells #[.int .i64 r,.slice a n c,.int .i64 lf,.bool dn] 38)=W0 at HA E0 E1 E2 E3 hsz ⊢
  have p0:=Bel.cell E0
  have p1:=Bel.cell E1
  have p2:=Bel.cell E2
  refine wp_region_bel (by kernel_rfl) (by kernel_rfl) ?_
  repeat (go_big_quiet_step (exact bel_of (hsz.out _)))
  refine wpQuiet_nil ?_
  intro _ hw'
  obtain⟨⟨W2,hW2⟩,rfl⟩:=hw'
  clear hsz p0 p1 p2
  go_wp2_with fail
  go_ret
  exact⟨ret_bool HF.out,below_then HA.out hW2 HA.out.size⟩
 ·have HF:=Lib.hid (show rightFs l=v by rw [HV.out,decide_eq_true hs,Bool.true_and])
  clear HV
  have b5:decide (r<(szL l:Int))=false:=by rw [decide_eq_false_iff_not]; omega
  clear hs
  generalize szL l=z at *
  go_enter Tryz.func50,Tryz.ntmps50
  go_wp2_with fail
  obtain⟨E0,E1,E2,E3⟩:=HD.out
  generalize w.alloc (.cells #[.int .i64 r,.slice a n c,.int .i64 lf,.bool dn] 38)=W0 at HA E0 E1 E2 E3 hsz ⊢
  have p0:=Bel.cell E0
  have p1:=Bel.cell E1
  have p2:=Bel.cell E2
  refine wp_region_bel (by kernel_rfl) (by kernel_rfl) ?_
  repeat (go_big_quiet_step (exact bel_of (hsz.out _)))
  refine wpQuiet_nil ?_
  intro _ hw'
  obtain⟨⟨W2,hW2⟩,rfl⟩:=hw'
  have HW2:=Lib.hid hW2
  have z1:=cell_keep hW2 E1
  clear hsz p0 p1 p2 hW2 b0 b1 b2 b3 b4 b5
  go_wp2_with fail
  go_loopg [3,4,40] n (fun gk v3 v4 i wr=>∃ (k:Nat),k≤n∧gk=n - k∧i = .int .i64 (k:Int)∧Hid (Below W0.heap.size W0 wr)∧Hid (∀ j,j<k→goodAt l j=true))
  case atStart=>exact⟨0,Nat.zero_le _,rfl,rfl,HW2,Lib.hid (fun j hj=>absurd hj (Nat.not_lt_zero _))⟩
  case round =>
   obtain⟨k,hk,rfl,rfl,hB,hgo⟩:=hrel
   by_cases hlt:k<n
   ·have hkd:k<l.length:=by rw [HL.out]; exact hlt
    have hW:=below_then HA.out hB.out HA.out.size
    obtain⟨-,b,off,rfl,hcells⟩:=fl_at (HSL.out.keep hW) (by omega)
    obtain⟨c0,c1,c2⟩:=hcells k hkd
    have x1:=cell_keep hB.out E1
    have hki:(k:Int)<(n:Int):=by omega
    obtain⟨s0,s1,s2⟩:=HSM.out l[k] (List.getElem_mem hkd)
    have hnmc:=Lib.hid (fun (v:Bool) (hv:Hid (v=nmOk l[k].nm)) (W:World)=>isName_any l[k].nm (Nat.le_trans s0 (by decide)) W v hv)
    have HB2:=Lib.hid (hB.out.alloc hB.out.size (.cells #[.string l[k].nm,.string l[k].sy,.string l[k].ta] 55))
    clear hW
    cases hnm:nmOk l[k].nm with
    | false =>
      have hno:=Lib.hid (rightFs_no hkd (goodAt_bad hkd hnm))
      have hc:=Lib.hid (hnmc.out false (Lib.hid hnm.symm))
      clear hnmc hgo hnm hcells E0 E1 E2 E3 hB
      generalize l[k]=o at *
      obtain⟨o0,o1,o2⟩:=o
      go_wp2_with fail
      go_quiet ((go_at_call 97; exact qsame (hc.out _)))
      go_wp2_with fail
      go_ret
      exact⟨ret_bool (by rw [← HF.out,hno.out]),below_then HA.out (below_drewN HB2.out _) HA.out.size⟩
    | true =>
      have hc:=Lib.hid (hnmc.out true (Lib.hid hnm.symm))
      rcases k with _ | j
      ·have hg:=goodAt_first hkd hnm
       have hnext:Hid (∀ j,j<0+1→goodAt l j=true):=Lib.hid fun j hj=>by
        obtain rfl:j=0:=by omega
        exact hg
       clear hnmc hgo hnm hcells E0 E1 E2 E3 hB hg
       generalize l[0]=o at *
       simp only [Nat.zero_mul,Nat.add_zero] at c0 c1 c2
       obtain⟨o0,o1,o2⟩:=o
       go_wp2_with fail
       go_quiet ((go_at_call 97; exact qsame (hc.out _)))
       go_wp2_with fail
       go_roundg (n - (0+1))
       case rel=>exact⟨0+1,by omega,rfl,by go_num,Lib.hid (below_drewN HB2.out _),hnext⟩
       case measure=>omega
      ·obtain⟨y0,y1,y2⟩:=hcells j (by omega)
       have hg:=goodAt_next hkd hnm
       cases hlx:ltN (l[j]'(by omega)).nm l[j+1].nm with
       | false =>
         have hno:=Lib.hid (rightFs_no hkd (hg.trans hlx))
         have hlx2:Op.bytesLess (l[j]'(by omega)).nm.toList l[j+1].nm.toList=false:=hlx
         clear hnmc hgo hnm hcells E0 E1 E2 E3 hB hg hlx y1 y2
         generalize l[j+1]=o at *
         generalize (l[j]'(by omega)).nm=x at *
         obtain⟨o0,o1,o2⟩:=o
         have hj0:(0:Int)<(j:Int)+1:=by omega
         have hj1:(j:Int)<(n:Int):=by omega
         have hnb:=HNB.out
         have hA3:Below wr.heap.size wr (wr.alloc (.cells #[.string o0,.string o1,.string o2] 55)):=(Below.refl _ wr).alloc (Nat.le_refl _) _
         have f0:(wr.alloc (.cells #[.string o0,.string o1,.string o2] 55)).cell? ⟨wr.heap.size,0,none⟩=some (.string o0):=cell_new (cs:=#[.string o0,.string o1,.string o2]) 0 (v:=.string o0) rfl
         have f1:=cell_keep hA3 x1
         have f2:=cell_keep hA3 y0
         have HG:=Lib.hid (And.intro f0 (And.intro f1 f2))
         clear hA3 f0 f1 f2 y0
         go_wp2_with fail
         obtain⟨f0,f1,f2⟩:=HG.out
         generalize wr.alloc (.cells #[.string o0,.string o1,.string o2] 55)=W3 at HB2 f0 f1 f2 ⊢
         clear x1 c0 c1 c2 HG
         go_quiet ((go_at_call 97; exact qsame (hc.out _)))
         go_wp2_with fail
         go_ret
         exact⟨ret_bool (by rw [← HF.out,hno.out]),below_then HA.out (below_drewN HB2.out _) HA.out.size⟩
       | true =>
         have hg:=hg.trans hlx
         have hnext:Hid (∀ i,i<j+1+1→goodAt l i=true):=Lib.hid fun i hi=>by
          by_cases hij:i=j+1
          ·subst hij; exact hg
          ·exact hgo.out i (by omega)
         have hlx2:Op.bytesLess (l[j]'(by omega)).nm.toList l[j+1].nm.toList=true:=hlx
         clear hnmc hgo hnm hcells E0 E1 E2 E3 hB hg hlx y1 y2
         generalize l[j+1]=o at *
         generalize (l[j]'(by omega)).nm=x at *
         obtain⟨o0,o1,o2⟩:=o
         have hj0:(0:Int)<(j:Int)+1:=by omega
         have hj1:(j:Int)<(n:Int):=by omega
         have hnb:=HNB.out
         have hA3:Below wr.heap.size wr (wr.alloc (.cells #[.string o0,.string o1,.string o2] 55)):=(Below.refl _ wr).alloc (Nat.le_refl _) _
         have f0:(wr.alloc (.cells #[.string o0,.string o1,.string o2] 55)).cell? ⟨wr.heap.size,0,none⟩=some (.string o0):=cell_new (cs:=#[.string o0,.string o1,.string o2]) 0 (v:=.string o0) rfl
         have f1:=cell_keep hA3 x1
         have f2:=cell_keep hA3 y0
         have HG:=Lib.hid (And.intro f0 (And.intro f1 f2))
         clear hA3 f0 f1 f2 y0
         go_wp2_with fail
         obtain⟨f0,f1,f2⟩:=HG.out
         generalize wr.alloc (.cells #[.string o0,.string o1,.string o2] 55)=W3 at HB2 f0 f1 f2 ⊢
         clear x1 c0 c1 c2 HG
         go_quiet ((go_at_call 97; exact qsame (hc.out _)))
         go_wp2_with fail
         go_roundg (n - (j+1+1))
         case rel=>exact⟨j+1+1,by omega,rfl,by go_num,Lib.hid (below_drewN HB2.out _),hnext⟩
         case measure=>omega
   ·have hki:(n:Int)≤(k:Int):=by omega
    have hyes:=Lib.hid (rightFs_yes (l:=l) (fun j hj=>hgo.out j (by have:=HL.out; omega)))
    go_wp2_with fail
    go_ret
    exact⟨ret_bool (by rw [← HF.out,hyes.out]),below_then HA.out hB.out HA.out.size⟩
theorem dkRight_any (a:Option Addr) (n c:Nat) (d:Dk) (w:World) (h:DkAt w a n c d) (v:Bool) (hv:Hid (v=rightD d)) :
 Calls Tryz.prog 50 #[d.val a n c] w fun e w'=>e = .returned (.bool v)∧Below w.heap.size w w':=by
 cases hn:numsOk d with
 | true=>exact right_good a n c d w h hn v hv
 | false =>
   have hf:v=false:=by rw [hv.out]; unfold rightD; rw [hn]; rfl
   rw [hf]
   exact right_bad a n c d w h hn
end Go.Proofs.YtlpgbmaoenncjaaGreatDoor

/-
  What code.Put writes, by definition, and: what is read of any bytes, written again, is the bytes; without a condition.
  The walks of strings.Builder's copyCheck, WriteByte and WriteString over a builder that the call has made itself; as long as what is gathered has at most 2^47 bytes. (The shelf's own do not lay at this seat; these follow its steps.)
  The walk of the closure of code.Put, by the kind of the value: a number, and a list; as long as what is written has at most 2^47 bytes.
  The walk of the closure of code.Put at a text; as long as what is written has at most 2^47 bytes. (Written by wip/mkput.py.)
  The walk of code.Put: the bytes of any value, or why it is refused; as long as what is written has at most 2^47 bytes, and the value at most 2^61 values within it.
  What code.Get reads, code.Put writes again: the plain law; without a condition.
  What code.Put writes of a value that may be, code.Get reads as that value: the plain law; without a condition but that the numbers are int64s.
  Laws of values in the making, and of numbers' lengths; without a condition.
  Messages as values and as bytes, in plain Lean: what is put is got again, and the other way round; without a condition.
  A list value in the making: one value more is appended to its row, by whatever operation.
  A list value in the making whose row lies above a base: its box, its row, what an append makes of it, and what of the world stays. Without a condition.
  How long a message's bytes are, and how many values it is; without a condition.
-/
import Derived.Test.YtlpgbmaoenncjaaGreatDoorCvAll
import Derived.Lib.ItoaNum
import Derived.Test.YtlpgbmaoenncjaaGreatDoorGen
import Derived.Test.YtlpgbmaoenncjaaGreatDoorRows
import Derived.Lib.Builder
import Derived.Laws.Externs
import Derived.Lib.AppendStr
import Derived.Lib.FrozenHead2
import Derived.Lib.OthersKept
import Derived.Test.YtlpgbmaoenncjaaGreatDoorShelf
import Derived.Lib.AppendIntMem
import Derived.Lib.UnsafeStr
import Derived.RangeFuncBox
import Derived.Deep.DeepCutAuto
import Derived.Deep.CutBlock
namespace Go.Proofs.YtlpgbmaoenncjaaGreatDoor
open Go.RowKit
set_option linter.unusedVariables false
mutual
def putL:V→List UInt8
 | .mk k n s l=>if k=1 then 105 :: (Lib.itoa n++[101]) else if k=2 then Lib.itoa (s.size:Int)++58 :: s.data.toList else 108 :: (putAll l++[101])
def putAll:List V→List UInt8
 | []=>[]
 | x :: r=>putL x++putAll r
end
theorem putAll_snoc (l:List V) (x:V):putAll (l++[x])=putAll l++putL x:=by
 induction l with
 | nil=>simp [putAll]
 | cons y r ih=>simp [putAll,ih]
theorem putAll_take {l:List V}{i:Nat}(h:i<l.length):putAll (l.take (i+1))=putAll (l.take i)++putL l[i]:=by
 rw [List.take_add_one,List.getElem?_eq_getElem h]
 exact putAll_snoc _ _
def RightTo:Nat→V→Prop
 | 0,_=>False
 | d+1,.mk k n s l=>rightOne k n s l=true∧∀ y∈l,RightTo d y
mutual
theorem rightGo_to:∀ (x:V) (d deep:Nat) (st:RS),RightTo d x→st.many+x.cnt≤4000 →
 (rightGo x deep st).many=st.many+x.cnt∧(rightGo x deep st).deepest+1≤max (st.deepest+1) (deep+d)∧(rightGo x deep st).ok=st.ok
 | .mk k n s l,0,deep,st,h,_=>by simp only [RightTo] at h
 | .mk k n s l,d+1,deep,st,h,hm=>by
   simp only [RightTo] at h
   rw [V.cnt] at hm
   rw [rightGo,V.cnt,if_neg (by omega)]
   have:=rightAll_to l d (deep+1) ⟨st.many+1,max st.deepest deep,st.ok&&rightOne k n s l⟩ h.2 (by dsimp only; omega)
   dsimp only at this
   rw [h.1,Bool.and_true] at this
   rw [h.1,Bool.and_true]
   exact⟨by omega,by omega,this.2.2⟩
theorem rightAll_to:∀ (l:List V) (d deep:Nat) (st:RS),(∀ y∈l,RightTo d y)→st.many+cntAll l≤4000 →
 (rightAll l deep st).many=st.many+cntAll l∧(rightAll l deep st).deepest+1≤max (st.deepest+1) (deep+d)∧(rightAll l deep st).ok=st.ok
 | [],d,deep,st,_,_=>by rw [rightAll,cntAll]; exact⟨rfl,by omega,rfl⟩
 | x :: r,d,deep,st,h,hm=>by
   rw [cntAll] at hm
   rw [rightAll,cntAll]
   have h1:=rightGo_to x d deep st (h x (List.mem_cons_self ..)) (by omega)
   have h2:=rightAll_to r d deep (rightGo x deep st) (fun y hy=>h y (List.mem_cons_of_mem _ hy)) (by omega)
   exact⟨by omega,by omega,h2.2.2.trans h1.2.2⟩
end
abbrev from_ (s:ByteArray) (a:Nat):List UInt8:=s.data.toList.drop a
theorem from_at {s:ByteArray}{a:Nat}{c:UInt8}(h:s.data.toList[a]? = some c):from_ s a=c :: from_ s (a+1):=by
 obtain⟨h1,h2⟩:=List.getElem?_eq_some_iff.1 h
 rw [from_,List.drop_eq_getElem_cons h1,h2]
theorem digit_of {c:UInt8}(h:¬(c.toNat<48∨57<c.toNat)):UInt8.ofNat (48+(c.toNat - 48))=c:=by
 rw [show 48+(c.toNat - 48)=c.toNat by omega]
 exact UInt8.ofNat_toNat
theorem digits_spell (s:ByteArray) (most b:Nat):∀ (f n a:Nat),b≤a→(a=b→n=0)→(b<a→from_ s b=Lib.decDigits n++from_ s a)→(digitsL s most b f n a).2.1=true →
 from_ s b=Lib.decDigits (digitsL s most b f n a).1++from_ s (digitsL s most b f n a).2.2.1
 | 0,n,a,_,_,_,h=>by simp [digitsL] at h
 | f+1,n,a,ha,h0,hi,h=>by
   rw [digitsL] at h ⊢
   by_cases h1:a<s.size
   ·rw [dif_pos h1] at h ⊢
    by_cases h2:s[a].toNat<48∨57<s[a].toNat
    ·rw [if_pos h2] at h ⊢
     by_cases h3:a=b
     ·rw [if_pos h3] at h; simp at h
     ·rw [if_neg h3] at h ⊢
      exact hi (by omega)
    ·rw [if_neg h2] at h ⊢
     by_cases h3:(b<a∧n=0)∨(most - (s[a].toNat - 48)) / 10<n
     ·rw [if_pos h3] at h; simp at h
     ·rw [if_neg h3] at h ⊢
      refine digits_spell s most b f _ (a+1) (by omega) (by omega) (fun _=>?_) h
      have hat:=from_at (at_lt h1)
      by_cases h4:a=b
      ·subst h4
       rw [h0 rfl,Nat.mul_zero,Nat.zero_add,Lib.decDigits,dif_pos (by omega),digit_of h2]
       exact hat
      ·have hn:n≠0:=fun e=>h3 (.inl ⟨by omega,e⟩)
       rw [hi (by omega),hat,show Lib.decDigits (10*n+(s[a].toNat - 48))=Lib.decDigits ((10*n+(s[a].toNat - 48)) / 10)++[UInt8.ofNat (48+(10*n+(s[a].toNat - 48)) % 10)] by rw [Lib.decDigits,dif_neg (by omega)],show (10*n+(s[a].toNat - 48)) / 10=n by omega,show (10*n+(s[a].toNat - 48)) % 10=s[a].toNat - 48 by omega,digit_of h2,List.append_assoc]
       rfl
   ·rw [dif_neg h1] at h; simp at h
theorem mustL_spell (s:ByteArray) (a:Nat) (c:UInt8) (h:(mustL s a c).1=true):from_ s a=c :: from_ s (mustL s a c).2.1:=by
 unfold mustL at h ⊢
 by_cases h1:a<s.size
 ·rw [dif_pos h1] at h ⊢
  by_cases h2:s[a]=c
  ·rw [if_pos h2]; rw [← h2]; exact from_at (at_lt h1)
  ·rw [if_neg h2] at h; simp at h
 ·rw [dif_neg h1] at h; simp at h
theorem decDigits_zero:Lib.decDigits 0=[48]:=by rw [Lib.decDigits,dif_pos (by decide)]; rfl
theorem numTail_spell (s:ByteArray) (most:Nat) (mi:Bool) (a:Nat) (hz:mi=true→s.data.toList[a]? ≠ some 48) (h:(numTail s most mi a).2.1=true) :
 (if mi=true then [45] else [])++from_ s a=Lib.itoa (numTail s most mi a).1++101 :: from_ s (numTail s most mi a).2.2.1:=by
 unfold numTail at h ⊢
 by_cases h1:(digitsL s most a (s.size+1 - a) 0 a).2.1=true
 ·rw [if_pos h1] at h ⊢
  have hd:=digits_spell s most a _ 0 a (Nat.le_refl _) (fun _=>rfl) (fun e=>absurd e (Nat.lt_irrefl _)) h1
  generalize digitsL s most a (s.size+1 - a) 0 a=x at *
  by_cases h2:(mustL s x.2.2.1 101).1=true
  ·rw [if_pos h2] at h ⊢
   have hm:=mustL_spell s _ _ h2
   cases mi with
   | false =>
     have e:Lib.itoa (x.1:Int)=Lib.decDigits x.1:=by
      unfold Lib.itoa
      rw [if_neg (by omega)]
      rfl
     simp only [Bool.false_eq_true,if_false,List.nil_append]
     rw [e,hd,hm]
   | true =>
     have hx:x.1≠0:=by
      intro e
      rw [e,decDigits_zero] at hd
      refine hz rfl ?_
      have:=congrArg (fun z:List UInt8=>z[0]?) hd
      simpa using this
     have e:Lib.itoa (-(x.1:Int))=45 :: Lib.decDigits x.1:=by
      unfold Lib.itoa
      rw [if_pos (by omega),Int.natAbs_neg]
      rfl
     simp only [if_true]
     rw [e,hd,hm]
     rfl
  ·rw [if_neg h2] at h; simp at h
 ·rw [if_neg h1] at h; simp at h
theorem numberL_spell (s:ByteArray) (a:Nat) (h:(numberL s a).2.1=true):from_ s a=Lib.itoa (numberL s a).1++101 :: from_ s (numberL s a).2.2.1:=by
 unfold numberL at h ⊢
 by_cases h1:s.data.toList[a]? = some 45
 ·rw [if_pos h1] at h ⊢
  by_cases h2:s.data.toList[a+1]? = some 48
  ·rw [if_pos h2] at h; simp at h
  ·rw [if_neg h2] at h ⊢
   have:=numTail_spell s _ true _ (fun _=>h2) h
   rw [from_at h1]
   exact this
 ·rw [if_neg h1] at h ⊢
  exact numTail_spell s _ false _ (fun e=>by cases e) h
theorem extract_list (s:ByteArray) (a n:Nat) (h:a+n≤s.size):(s.extract a (a+n)).data.toList=(from_ s a).take n∧(s.extract a (a+n)).size=n:=by
 refine⟨?_,by simp; omega⟩
 simp [from_]
def Spelt (s:ByteArray) (d a m:Nat) (x:Rd):Prop:=x.ok=true→from_ s a=putL x.v++from_ s x.at_∧x.many=m+x.v.cnt∧RightTo d x.v
theorem rdText_spell (s:ByteArray) (d a m:Nat):Spelt s (d+1) a m (rdText s a (m+1)):=by
 intro h
 unfold rdText at h ⊢
 by_cases h1:(digitsL s 131072 a (s.size+1 - a) 0 a).2.1=true
 ·rw [if_pos h1] at h ⊢
  have hd:=digits_spell s 131072 a _ 0 a (Nat.le_refl _) (fun _=>rfl) (fun e=>absurd e (Nat.lt_irrefl _)) h1
  generalize digitsL s 131072 a (s.size+1 - a) 0 a=x at *
  by_cases h2:(mustL s x.2.2.1 58).1=true
  ·rw [if_pos h2] at h ⊢
   have hm:=mustL_spell s _ _ h2
   have hl:=mustL_at s _ _ h2
   generalize mustL s x.2.2.1 58=y at *
   by_cases h3:s.size - y.2.1<x.1
   ·rw [if_pos h3] at h; simp [Rd.no] at h
   ·rw [if_neg h3]
    have he:=extract_list s y.2.1 x.1 (by omega)
    dsimp only
    refine⟨?_,by simp [V.cnt,cntAll],by simp [RightTo,rightOne]⟩
    rw [putL,if_neg (by decide),if_pos rfl,he.2,he.1,hd,hm]
    have e:Lib.itoa (x.1:Int)=Lib.decDigits x.1:=by
     unfold Lib.itoa
     rw [if_neg (by omega)]
     rfl
    rw [e,List.append_assoc,List.cons_append]
    congr 2
    rw [show from_ s (y.2.1+x.1)=(from_ s y.2.1).drop x.1 by simp [from_,List.drop_drop]]
    exact (List.take_append_drop _ _).symm
  ·rw [if_neg h2] at h; simp [Rd.no] at h
 ·rw [if_neg h1] at h; simp [Rd.no] at h
theorem rdList_spell (rd:Nat→Nat→Rd) (s:ByteArray) (d:Nat) (hrd:∀ a m,Spelt s d a m (rd a m)):∀ (f a m:Nat) (acc:List V),(rdList rd s f a m acc).ok=true →
 ∃ ys,(rdList rd s f a m acc).v = .mk 3 0 ⟨#[]⟩ (acc++ys)∧from_ s a=putAll ys++101 :: from_ s (rdList rd s f a m acc).at_∧(rdList rd s f a m acc).many=m+cntAll ys∧∀ y∈ys,RightTo d y
 | 0,a,m,acc,h=>by simp [rdList,Rd.no] at h
 | f+1,a,m,acc,h=>by
   rw [rdList] at h ⊢
   by_cases h1:s.data.toList[a]? = some 101
   ·rw [if_pos h1]
    exact⟨[],by simp,by simpa [putAll] using from_at h1,rfl,fun y hy=>by cases hy⟩
   ·rw [if_neg h1] at h ⊢
    by_cases h2:(rd a m).ok=true
    ·rw [if_pos h2] at h ⊢
     obtain⟨h4,h5,h6⟩:=hrd a m h2
     obtain⟨ys,e1,e2,e3,e4⟩:=rdList_spell rd s d hrd f _ _ _ h
     refine⟨(rd a m).v :: ys,by rw [e1]; simp,?_,by rw [e3,h5,cntAll]; omega,fun y hy=>?_⟩
     ·rw [h4,putAll,List.append_assoc,← e2]
     ·rcases List.mem_cons.1 hy with rfl | hy
      ·exact h6
      ·exact e4 y hy
    ·rw [if_neg h2] at h; simp [Rd.no] at h
theorem rdValue_spell (s:ByteArray):∀ (d a m:Nat),Spelt s d a m (rdValue s d a m)
 | 0,a,m=>by
   intro h
   rw [rdValue] at h
   cases hc:s.data.toList[a]? with
   | none=>rw [hc] at h; simp [Rd.no] at h
   | some c=>rw [hc] at h; dsimp only at h; split at h <;> simp [Rd.no] at h
 | d+1,a,m=>by
   intro h
   rw [rdValue] at h ⊢
   cases hc:s.data.toList[a]? with
   | none=>rw [hc] at h; simp [Rd.no] at h
   | some c =>
     rw [hc] at h
     dsimp only at h ⊢
     by_cases h1:begins c=true
     ·rw [if_pos h1] at h ⊢
      by_cases h2:4000≤m
      ·rw [if_pos h2] at h; simp [Rd.no] at h
      ·rw [if_neg h2] at h ⊢
       by_cases h3:c=105
       ·rw [if_pos h3] at h ⊢
        have:=numberL_spell s (a+1) h
        dsimp only [rdNumber]
        refine⟨?_,by simp [V.cnt,cntAll],?_⟩
        ·rw [putL,if_pos rfl,from_at hc,this,h3]; simp
        ·simp [RightTo,rightOne]; rfl
       ·rw [if_neg h3] at h ⊢
        by_cases h4:c=108
        ·rw [if_pos h4] at h ⊢
         obtain⟨ys,e1,e2,e3,e4⟩:=rdList_spell _ s d (rdValue_spell s d) _ _ _ _ h
         rw [List.nil_append] at e1
         refine⟨?_,?_,?_⟩
         ·rw [e1,putL,if_neg (by decide),if_neg (by decide),from_at hc,e2,h4]; simp
         ·rw [e1,e3,V.cnt]; omega
         ·rw [e1]; simp only [RightTo]; exact⟨by simp [rightOne]; rfl,e4⟩
        ·rw [if_neg h4] at h ⊢
         exact rdText_spell s d a m h
     ·rw [if_neg h1] at h; simp [Rd.no] at h
def Rd.Bad (s:ByteArray) (x:Rd):Prop:=x.ok≠true→x.bad≠0∧x.at_≤s.size
theorem digitsL_no (s:ByteArray) (most b:Nat):∀ (f n a:Nat),a≤s.size→(digitsL s most b f n a).2.2.1≤s.size∧((digitsL s most b f n a).2.1≠true→(digitsL s most b f n a).2.2.2≠0)
 | 0,n,a,ha=>by simp [digitsL,ha]
 | f+1,n,a,ha=>by
   rw [digitsL]
   by_cases h1:a<s.size
   ·rw [dif_pos h1]
    by_cases h2:s[a].toNat<48∨57<s[a].toNat
    ·rw [if_pos h2]
     by_cases h3:a=b
     ·rw [if_pos h3]; exact⟨ha,fun _=>by simp⟩
     ·rw [if_neg h3]; exact⟨ha,fun h=>absurd rfl h⟩
    ·rw [if_neg h2]
     by_cases h3:(b<a∧n=0)∨(most - (s[a].toNat - 48)) / 10<n
     ·rw [if_pos h3]; exact⟨ha,fun _=>by simp⟩
     ·rw [if_neg h3]; exact digitsL_no s most b f _ (a+1) h1
   ·rw [dif_neg h1]; exact⟨ha,fun _=>by simp⟩
theorem mustL_no (s:ByteArray) (a:Nat) (c:UInt8) (ha:a≤s.size):(mustL s a c).2.1≤s.size∧((mustL s a c).1≠true→(mustL s a c).2.2≠0):=by
 unfold mustL
 by_cases h1:a<s.size
 ·rw [dif_pos h1]
  by_cases h2:s[a]=c
  ·rw [if_pos h2]; exact⟨h1,fun h=>absurd rfl h⟩
  ·rw [if_neg h2]; exact⟨ha,fun _=>by simp⟩
 ·rw [dif_neg h1]; exact⟨ha,fun _=>by simp⟩
theorem numTail_no (s:ByteArray) (most:Nat) (mi:Bool) (a:Nat) (ha:a≤s.size) (h:(numTail s most mi a).2.1≠true):(numTail s most mi a).2.2.2≠0∧(numTail s most mi a).2.2.1≤s.size:=by
 unfold numTail at h ⊢
 have hd:=digitsL_no s most a (s.size+1 - a) 0 a ha
 generalize digitsL s most a (s.size+1 - a) 0 a=x at *
 by_cases h1:x.2.1=true
 ·rw [if_pos h1] at h ⊢
  have hm:=mustL_no s x.2.2.1 101 hd.1
  generalize mustL s x.2.2.1 101=y at *
  by_cases h2:y.1=true
  ·rw [if_pos h2] at h; exact absurd rfl h
  ·rw [if_neg h2]; exact⟨hm.2 h2,hm.1⟩
 ·rw [if_neg h1]; exact⟨hd.2 h1,hd.1⟩
theorem numberL_no (s:ByteArray) (a:Nat) (ha:a≤s.size) (h:(numberL s a).2.1≠true):(numberL s a).2.2.2≠0∧(numberL s a).2.2.1≤s.size:=by
 unfold numberL at h ⊢
 by_cases h1:s.data.toList[a]? = some 45
 ·have:=at_some h1
  rw [if_pos h1] at h ⊢
  by_cases h2:s.data.toList[a+1]? = some 48
  ·rw [if_pos h2]; exact⟨by simp,this⟩
  ·rw [if_neg h2] at h ⊢; exact numTail_no s _ _ _ this h
 ·rw [if_neg h1] at h ⊢; exact numTail_no s _ _ _ ha h
theorem rdText_no (s:ByteArray) (a m:Nat) (ha:a≤s.size):Rd.Bad s (rdText s a m):=by
 intro h
 unfold rdText at h ⊢
 have hd:=digitsL_no s 131072 a (s.size+1 - a) 0 a ha
 generalize digitsL s 131072 a (s.size+1 - a) 0 a=x at *
 by_cases h1:x.2.1=true
 ·rw [if_pos h1] at h ⊢
  have hm:=mustL_no s x.2.2.1 58 hd.1
  generalize mustL s x.2.2.1 58=y at *
  by_cases h2:y.1=true
  ·rw [if_pos h2] at h ⊢
   by_cases h3:s.size - y.2.1<x.1
   ·rw [if_pos h3]; exact⟨by simp [Rd.no],Nat.le_refl _⟩
   ·rw [if_neg h3] at h; exact absurd rfl h
  ·rw [if_neg h2]; exact⟨hm.2 h2,hm.1⟩
 ·rw [if_neg h1]; exact⟨hd.2 h1,hd.1⟩
theorem rdList_no (rd:Nat→Nat→Rd) (s:ByteArray) (hrd:∀ a m,a≤s.size→m≤4000→Rd.Bad s (rd a m)) (hgd:∀ a m,m≤4000→Rd.Good s a (rd a m)):∀ (f a m:Nat) (acc:List V),a≤s.size→m≤4000→Rd.Bad s (rdList rd s f a m acc)
 | 0,a,m,acc,ha,_=>fun _=>⟨by simp [rdList,Rd.no],ha⟩
 | f+1,a,m,acc,ha,hm=>by
   intro h
   rw [rdList] at h ⊢
   by_cases h1:s.data.toList[a]? = some 101
   ·rw [if_pos h1] at h; exact absurd rfl h
   ·rw [if_neg h1] at h ⊢
    by_cases h2:(rd a m).ok=true
    ·rw [if_pos h2] at h ⊢
     obtain⟨-,h4,h5,h6⟩:=hgd a m hm h2
     exact rdList_no rd s hrd hgd f _ _ _ h5 h6 h
    ·rw [if_neg h2]; exact hrd a m ha hm h2
theorem rdValue_no (s:ByteArray):∀ (d a m:Nat),a≤s.size→m≤4000→Rd.Bad s (rdValue s d a m)
 | 0,a,m,ha,_=>by
   intro h
   rw [rdValue] at h ⊢
   cases hc:s.data.toList[a]? with
   | none=>exact⟨by simp [Rd.no],ha⟩
   | some c=>dsimp only; split <;> exact⟨by simp [Rd.no],ha⟩
 | d+1,a,m,ha,hm=>by
   intro h
   rw [rdValue] at h ⊢
   cases hc:s.data.toList[a]? with
   | none=>exact⟨by simp [Rd.no],ha⟩
   | some c =>
     have hlt:=at_some hc
     rw [hc] at h
     dsimp only at h ⊢
     by_cases h1:begins c=true
     ·rw [if_pos h1] at h ⊢
      by_cases h2:4000≤m
      ·rw [if_pos h2]; exact⟨by simp [Rd.no],ha⟩
      ·rw [if_neg h2] at h ⊢
       by_cases h3:c=105
       ·rw [if_pos h3] at h ⊢
        exact numberL_no s (a+1) hlt h
       ·rw [if_neg h3] at h ⊢
        by_cases h4:c=108
        ·rw [if_pos h4] at h ⊢
         exact rdList_no _ s (fun a m ha hm=>rdValue_no s d a m ha hm) (fun a m hm=>rdValue_good s d a m hm) _ _ _ _ hlt (by omega) h
        ·rw [if_neg h4] at h ⊢
         exact rdText_no s a _ ha h
     ·rw [if_neg h1]; exact⟨by simp [Rd.no],ha⟩
end Go.Proofs.YtlpgbmaoenncjaaGreatDoor
namespace Go.Proofs.YtlpgbmaoenncjaaGreatDoor
open Go.RowKit
set_option linter.unusedVariables false
theorem sizeBd:(Tryz.prog.info? 122).map (fun i=>i.size)=some 2:=by kernel_rfl
set_option maxHeartbeats 1000000 in
set_option maxRecDepth 100000 in
theorem bdCheck_used (b:Nat) (w:World) (h0:w.cell? ⟨b,0,none⟩=some (.pointer (some ⟨b,0,none⟩))) :
 Calls Tryz.prog 127 #[.pointer (some ⟨b,0,none⟩)] w fun e w'=>e = .returned (.tuple #[])∧w'=w:=by
 obtain⟨j,hj,_⟩:=Option.map_eq_some_iff.1 sizeBd
 have hsame:=Lib.hid (Lib.run_neq_ptr_same w ⟨b,0,none⟩ Tryz.underlying119 hj)
 go_enter Tryz.func127,Tryz.ntmps127
 go_wp2
 rw [hsame.out]
 go_wp2
 go_end0
 exact⟨rfl,rfl⟩
theorem liesBd:liesAt Tryz.prog Tryz.prog.depth 122 (2 / Tryz.prog.cellsOf 122) 0 122 1=true:=by kernel_rfl
set_option maxHeartbeats 1000000 in
set_option maxRecDepth 100000 in
theorem bdCheck_new (b:Nat) (w:World) (h0:w.cell? ⟨b,0,none⟩=some (.pointer none)) (hsh:w.shape? b=some (122,2)) (hfz:w.frozen? ⟨b,0,none⟩=false) :
 Calls Tryz.prog 127 #[.pointer (some ⟨b,0,none⟩)] w fun e w'=>e = .returned (.tuple #[])∧w'=w.setCell ⟨b,0,none⟩ (.pointer (some ⟨b,0,none⟩)):=by
 obtain⟨j,hj,hjs⟩:=Option.map_eq_some_iff.1 sizeBd
 have to_:=Lib.hid (Lib.run_to_unsafe w ⟨b,0,none⟩ Tryz.underlying119 Tryz.underlying193 hj (by rw [hjs]; decide) hsh (Nat.zero_lt_succ 1))
 have from_:=Lib.hid (Lib.run_from_unsafe w ⟨b,0,none⟩ Tryz.underlying193 Tryz.underlying119 hj hsh liesBd)
 go_enter Tryz.func127,Tryz.ntmps127
 go_wp2
 rw [to_.out,Result.andThen_ok,Oper.upon_value]
 go_wp2
 rw [run_callFunc_extern Tryz.func172 (by kernel_rfl) (by kernel_rfl) (by kernel_rfl) (e:=Extern.AbiNoEscape.same) (by kernel_rfl),Lib.run_noEscape]
 simp only [Result.andThen_ok]
 rw [Oper.upon_value]
 go_wp2
 rw [from_.out,Result.andThen_ok,Oper.upon_value]
 go_wp2
 go_end0
 exact⟨rfl,rfl⟩
abbrev Bd (B b:Nat) (bs:List Value) (w:World):Prop:=Lib.IsBuilderF 122 5 B b bs w
abbrev BdKept (b:Nat) (w w':World):Prop:=Lib.OthersKept 5 (some b) w w'
theorem bdCheck_any (B b:Nat) (bs:List Value) (w:World) (h:Bd B b bs w) :
 Calls Tryz.prog 127 #[.pointer (some ⟨b,0,none⟩)] w fun e w'=>e = .returned (.tuple #[])∧Lib.BuilderAtF 122 5 B b (.pointer (some ⟨b,0,none⟩)) bs w'∧Below B w w'∧BdKept b w w':=by
 rcases h with h | h
 ·refine (bdCheck_new b w h.cell0 h.shape h.frozen0).mono ?_
  rintro e w' ⟨rfl,rfl⟩
  exact⟨rfl,h.used _,(Below.refl B w).setCell (p:=⟨b,0,none⟩) h.1 _,(Lib.OthersKept.refl _ _ w).setCell ⟨b,0,none⟩ rfl _⟩
 ·refine (bdCheck_used b w h.cell0).mono ?_
  rintro e w' ⟨rfl,rfl⟩
  exact⟨rfl,h,Below.refl B _,Lib.OthersKept.refl _ _ _⟩
set_option maxHeartbeats 2000000 in
set_option maxRecDepth 100000 in
theorem bdByte_any (B b:Nat) (bs:List Value) (c:Int) (w:World) (h:Bd B b bs w) (hlen:bs.length+1≤140737488355328) (hBw:B≤w.heap.size) :
 Calls Tryz.prog 80 #[.pointer (some ⟨b,0,none⟩),.int .u8 c] w fun e w'=>e = .returned .nilIface∧Bd B b (bs++[.int .u8 c]) w'∧Below B w w'∧BdKept b w w':=by
 obtain⟨i0,hi,hz0,hz1,hz2⟩:=info_parts infoByte
 have hck:=Lib.hid (bdCheck_any B b bs w h)
 clear h
 go_enter Tryz.func80,Tryz.ntmps80
 go_wp2_with fail
 refine hck.out.mono ?_
 rintro e w1 ⟨rfl,⟨hB,v,hbk,hown,hne⟩,hb1,hk1⟩
 have c0:w1.cell? ⟨b,0,none⟩=some (.pointer (some ⟨b,0,none⟩)):=by rw [Lib.cell_of_heap hbk]; rfl
 have c1:w1.cell? ⟨b,1,none⟩=some v:=by rw [Lib.cell_of_heap hbk]; rfl
 have HBK:=Lib.hid hbk
 have HO:=Lib.hid hown
 have HN:=Lib.hid hne
 have HB1:=Lib.hid hb1
 have HK1:=Lib.hid hk1
 clear hbk hown hne hb1 hk1
 go_wp2_with (at_builtin; refine wpList_append_ownF _ rfl _ _ 120 rfl B 5 i0 (.int .u8 0) 1 1 Tryz.underlying120 hi hz0 hz1 hz2 rfl (by decide) _ _ _ rfl (HO.out.alloc _) ⟨w1.heap.size,0,none⟩ 1 1 [.int .u8 c] rfl rfl ?c1 ?c2 ?c3 ?c4 ?c5 ?_)
 case c1 =>
  intro j u hj
  match j,hj with
  | 0,hj=>simp at hj; subst hj; simp [Addr.add]
 case c2=>intro u hu; simp at hu; subst hu; rfl
 case c3=>unfold maxLen; omega
 case c4=>omega
 case c5=>have:=HB1.out.size; simp; omega
 intro v' w2 hown' hgrow _
 have hbk:=HBK.out
 have hlt:b<w1.heap.size:=lt_of_block hbk
 have hb2:w2.heap[b]? = some (.cells #[.pointer (some ⟨b,0,none⟩),v] 122 (0,0)):=by
  rw [hgrow.block b (by simp; omega) (fun e=>HN.out e.symm),Lib.alloc_old w1 _ b hlt]
  exact hbk
 have d0:w2.cell? ⟨b,0,none⟩=some (.pointer (some ⟨b,0,none⟩)):=by rw [Lib.cell_of_heap hb2]; rfl
 have d1:w2.cell? ⟨b,1,none⟩=some v:=by rw [Lib.cell_of_heap hb2]; rfl
 have f1:w2.frozen? ⟨b,1,none⟩=false:=Lib.frozen_of_heap hb2 1
 have HB2:=Lib.hid hb2
 have HO':=Lib.hid hown'
 have HK2:=Lib.hid (((HK1.out.alloc (.cells #[.int .u8 c] 5)).grown hgrow (Lib.ownsRowF_kind (HO.out.alloc _))))
 have HG:=Lib.hid (((HB1.out.alloc (by have:=HB1.out.size; omega) (.cells #[.int .u8 c] 5)).grown hgrow (by have:=HB1.out.size; simp; omega) (fun k hk=>(HO.out.lt k hk).1)))
 obtain⟨ao,n',cap,rfl⟩:∃ ao n' cap,v' = .slice ao n' cap:=by
  rcases hown'.2 with ⟨hv,_⟩ | ⟨g,cap,cur,fz,hv,_⟩
  ·exact⟨_,_,_,hv⟩
  ·exact⟨_,_,_,hv⟩
 clear hb2 hown' hgrow hbk
 go_wp2
 go_ret
 refine⟨rfl,.inr ?_,?_,?_⟩
 ·exact Lib.BuilderAtF.put (T:=122) (e:=5) hB HB2.out (bs':=bs++[.int .u8 c]) (by have:=HO'.out; simpa using this) (by decide)
 ·exact HG.out.setCell (p:=⟨b,1,none⟩) hB _
 ·exact HK2.out.setCell ⟨b,1,none⟩ rfl _
set_option maxHeartbeats 2000000 in
set_option maxRecDepth 100000 in
theorem bdWrite_any (B b:Nat) (bs:List Value) (s:ByteArray) (w:World) (h:Bd B b bs w) (hlen:bs.length+s.size≤140737488355328) (hBw:B≤w.heap.size) :
 Calls Tryz.prog 77 #[.pointer (some ⟨b,0,none⟩),.string s] w fun e w'=>e = .returned (.tuple #[.int .i64 s.size,.nilIface])∧Bd B b (bs++Lib.strCells s) w'∧Below B w w'∧BdKept b w w':=by
 obtain⟨i0,hi,hz0,hz1,hz2⟩:=info_parts infoByte
 have hck:=Lib.hid (bdCheck_any B b bs w h)
 clear h
 go_enter Tryz.func77,Tryz.ntmps77
 go_wp2_with fail
 refine hck.out.mono ?_
 rintro e w1 ⟨rfl,⟨hB,v,hbk,hown,hne⟩,hb1,hk1⟩
 have hsz:=hb1.size
 have k0:w1.cell? ⟨b,0,none⟩=some (.pointer (some ⟨b,0,none⟩)):=by rw [Lib.cell_of_heap hbk]; rfl
 have k1:w1.cell? ⟨b,1,none⟩=some v:=by rw [Lib.cell_of_heap hbk]; rfl
 have HBK:=Lib.hid hbk
 have HO:=Lib.hid hown
 have HN:=Lib.hid hne
 have HB1:=Lib.hid hb1
 have HK1:=Lib.hid hk1
 clear hbk hown hne hb1 hk1
 go_wp2_with (at_builtin; refine Lib.wpList_append_own_stringF _ rfl _ _ 120 9 rfl B 5 i0 Tryz.underlying120 Tryz.underlying9 hi hz0 hz1 hz2 _ _ _ rfl HO.out s rfl ?c3 ?c4 ?c5 ?_)
 case c3=>unfold maxLen; omega
 case c4=>omega
 case c5=>omega
 intro v' w2 hown' hgrow _
 have hblk:w2.heap[b]? = some (.cells #[.pointer (some ⟨b,0,none⟩),v] 122 (0,0)):=by
  rw [hgrow.block b (lt_of_block HBK.out) (fun e=>HN.out e.symm)]
  exact HBK.out
 have d0:w2.cell? ⟨b,0,none⟩=some (.pointer (some ⟨b,0,none⟩)):=by rw [Lib.cell_of_heap hblk]; rfl
 have d1:w2.cell? ⟨b,1,none⟩=some v:=by rw [Lib.cell_of_heap hblk]; rfl
 have f1:w2.frozen? ⟨b,1,none⟩=false:=Lib.frozen_of_heap hblk 1
 have HBL:=Lib.hid hblk
 have HO':=Lib.hid hown'
 have HK2:=Lib.hid (HK1.out.grown hgrow (Lib.ownsRowF_kind HO.out))
 have HG:=Lib.hid (HB1.out.grown hgrow (by omega) (fun k hk=>(HO.out.lt k hk).1))
 obtain⟨ao,n',cap,rfl⟩:∃ ao n' cap,v' = .slice ao n' cap:=by
  rcases hown'.2 with ⟨hv,_⟩ | ⟨g,cap,cur,fz,hv,_⟩
  ·exact⟨_,_,_,hv⟩
  ·exact⟨_,_,_,hv⟩
 clear hblk hown' hgrow
 go_wp2
 go_ret2
 refine⟨rfl,.inr ?_,?_,?_⟩
 ·exact Lib.BuilderAtF.put (T:=122) (e:=5) hB HBL.out (bs':=bs++Lib.strCells s) (by have:=HO'.out; simpa [Lib.strCells_length] using this) (by decide)
 ·exact HG.out.setCell (p:=⟨b,1,none⟩) hB _
 ·exact HK2.out.setCell ⟨b,1,none⟩ rfl _
end Go.Proofs.YtlpgbmaoenncjaaGreatDoor
namespace Go.Proofs.YtlpgbmaoenncjaaGreatDoor
open Go.RowKit
set_option linter.unusedVariables false
abbrev Tab (B:Nat) (w:World):Prop:=Lib.TabBelow Tryz.prog B w "internal/strconv.uint64pow10" .u64 Lib.pow10Tab
abbrev putFn (b F:Nat):Value:=.func (.func 76) #[] #[.pointer (some ⟨b,0,none⟩),.pointer (some ⟨F,0,none⟩)]
structure PutIn (B b F:Nat) (bs:List UInt8) (w:World):Prop where
 bd:Bd B b (Lib.byteCells bs) w
 fn:Boxed w F 123 (putFn b F)
 tab:Tab B w
 ne:F≠b
theorem Bd.le {B b:Nat}{bs:List Value}{w:World}(h:Bd B b bs w):B≤b∧b<w.heap.size:=by
 rcases h with h | h <;> exact⟨h.1,h.lt⟩
theorem bdAtF_under {T e:TypeId}{B b:Nat}{p:Value}{bs:List Value}{w w':World}(h:Lib.BuilderAtF T e B b p bs w) (hb:Below w.heap.size w w'):Lib.BuilderAtF T e B b p bs w':=by
 have hlt:=h.lt
 obtain⟨hB,v,hbk,hown,hne⟩:=h
 exact⟨hB,v,(hb.block b hlt).trans hbk,hown.kept (row:=none) ⟨hb.os,hb.tape,hb.output,hb.size,fun k hk _=>hb.block k hk⟩ (by cases hv:v.ownBlock <;> simp),hne⟩
theorem Bd.under {B b:Nat}{bs:List Value}{w w':World}(h:Bd B b bs w) (hb:Below w.heap.size w w'):Bd B b bs w':=by
 rcases h with h | h
 ·exact .inl (bdAtF_under h hb)
 ·exact .inr (bdAtF_under h hb)
theorem Below.lower {A B:Nat}{w w':World}(h:Below A w w') (hAB:B≤A):Below B w w':=⟨h.os,h.tape,h.output,h.size,fun i hi=>h.block i (by omega)⟩
theorem PutIn.size {B b F:Nat}{bs:List UInt8}{w:World}(h:PutIn B b F bs w):B≤w.heap.size:=by have:=h.bd.le; omega
theorem PutIn.under {B b F:Nat}{bs:List UInt8}{w w':World}(h:PutIn B b F bs w) (hb:Below w.heap.size w w'):PutIn B b F bs w' :=
 ⟨h.bd.under hb,(hb.block F h.fn.lt).trans h.fn,h.tab.on (Below.lower hb h.size),h.ne⟩
theorem PutIn.alloc {B b F:Nat}{bs:List UInt8}{w:World}(h:PutIn B b F bs w) (o:Obj):PutIn B b F bs (w.alloc o):=h.under ((Below.refl _ w).alloc (Nat.le_refl _) o)
theorem bdKept_cells {b k:Nat}{w w':World}{cs:Array Value}{t:TypeId}{fz:Nat × Nat}(h:BdKept b w w') (hk:w.heap[k]? = some (.cells cs t fz)) (hne:k≠b) (ht:t≠5):w'.heap[k]? = some (.cells cs t fz) :=
 h k _ hk (fun e=>hne (Option.some.inj e)) (fun c f e=>by cases e; exact ht rfl)
theorem PutIn.wrote {B b F:Nat}{bs bs':List UInt8}{w w':World}(h:PutIn B b F bs w) (hd:Bd B b (Lib.byteCells bs') w') (hb:Below B w w') (hk:BdKept b w w'):PutIn B b F bs' w' :=
 ⟨hd,bdKept_cells hk h.fn h.ne (by decide),h.tab.on hb,h.ne⟩
theorem put_write (B b F:Nat) (bs:List UInt8) (s:ByteArray) (w:World) (h:PutIn B b F bs w) (hlen:bs.length+s.size≤140737488355328) :
 Calls Tryz.prog 77 #[.pointer (some ⟨b,0,none⟩),.string s] w fun e w'=>e = .returned (.tuple #[.int .i64 s.size,.nilIface])∧PutIn B b F (bs++s.data.toList) w'∧Below B w w'∧BdKept b w w':=by
 refine (bdWrite_any B b _ s w h.bd (by rw [Lib.byteCells_length]; exact hlen) h.size).mono ?_
 rintro e w' ⟨rfl,h1,h2,h3⟩
 rw [Lib.strCells_eq,← Lib.byteCells_append] at h1
 exact⟨rfl,h.wrote h1 h2 h3,h2,h3⟩
theorem put_byte (B b F:Nat) (bs:List UInt8) (c:UInt8) (i:Int) (hi:i=(c.toNat:Int)) (w:World) (h:PutIn B b F bs w) (hlen:bs.length+1≤140737488355328) :
 Calls Tryz.prog 80 #[.pointer (some ⟨b,0,none⟩),.int .u8 i] w fun e w'=>e = .returned .nilIface∧PutIn B b F (bs++[c]) w'∧Below B w w'∧BdKept b w w':=by
 subst hi
 refine (bdByte_any B b _ _ w h.bd (by rw [Lib.byteCells_length]; exact hlen) h.size).mono ?_
 rintro e w' ⟨rfl,h1,h2,h3⟩
 rw [show [Value.int .u8 (c.toNat:Int)]=Lib.byteCells [c] from rfl,← Lib.byteCells_append] at h1
 exact⟨rfl,h.wrote h1 h2 h3,h2,h3⟩
theorem fmt_any (n:Int) (h0:-9223372036854775808≤n) (h1:n≤9223372036854775807) (B:Nat) (w:World) (h:Tab B w) :
 Calls Tryz.prog 78 #[.int .i64 n,.int .i64 10] w fun e w'=>e = .returned (.string ⟨(Lib.itoa n).toArray⟩)∧Below w.heap.size w w':=by
 refine (Tryz.strconv_FormatInt_10 n h0 h1 w h.here).mono ?_
 rintro e w' ⟨rfl,k,os,rfl⟩
 exact⟨rfl,Lib.below_grow _ _ (Nat.le_refl _) k os⟩
theorem itoa_any (n:Int) (h0:-9223372036854775808≤n) (h1:n≤9223372036854775807) (B:Nat) (w:World) (h:Tab B w) :
 Calls Tryz.prog 79 #[.int .i64 n] w fun e w'=>e = .returned (.string ⟨(Lib.itoa n).toArray⟩)∧Below w.heap.size w w':=by
 refine (Tryz.strconv_Itoa n h0 h1 w h.here).mono ?_
 rintro e w' ⟨rfl,k,os,rfl⟩
 exact⟨rfl,Lib.below_grow _ _ (Nat.le_refl _) k os⟩
def PutPost (B b F:Nat) (bs:List UInt8) (w:World) (e:Ending) (w':World):Prop:=e = .returned (.tuple #[])∧PutIn B b F bs w'∧Below B w w'
set_option maxRecDepth 20000 in
set_option maxHeartbeats 4000000 in
theorem put1_num (B b F:Nat) (bs:List UInt8) (n:Int) (s:ByteArray) (a:Option Addr) (l c:Nat) (w:World) (h:PutIn B b F bs w) (h0:-9223372036854775808≤n) (h1:n≤9223372036854775807) (hlen:bs.length+((Lib.itoa n).length+2)≤140737488355328) :
 Calls Tryz.prog 76 #[.agg #[.int .i64 1,.int .i64 n,.string s,.slice a l c],.pointer (some ⟨b,0,none⟩),.pointer (some ⟨F,0,none⟩)] w (PutPost B b F (bs++105 :: (Lib.itoa n++[101])) w):=by
 have HN:=Lib.hid (Four.new w 70 (.int .i64 1) (.int .i64 n) (.string s) (.slice a l c))
 have n0:=HN.out.c0
 have n1:=HN.out.c1
 have H1:=Lib.hid (h.alloc (.cells #[.int .i64 1,.int .i64 n,.string s,.slice a l c] 70))
 have HB1:=Lib.hid ((Below.refl B w).alloc h.size (.cells #[.int .i64 1,.int .i64 n,.string s,.slice a l c] 70))
 clear h HN
 go_enter Tryz.func76,Tryz.ntmps76
 go_wp2_with fail
 refine (fmt_any n h0 h1 B _ H1.out.tab).mono ?_
 rintro e w2 ⟨rfl,hb2⟩
 have H2:=Lib.hid (H1.out.under hb2)
 have HB2:=Lib.hid (HB1.out.trans (Below.lower hb2 H1.out.size))
 clear H1 HB1 n0 n1 hb2
 go_wp2_with fail
 refine (put_write B b F bs _ w2 H2.out ?_).mono ?_
 ·rw [show ((⟨#[105]⟩:ByteArray)++⟨(Lib.itoa n).toArray⟩++⟨#[101]⟩).size=1+(Lib.itoa n).length+1 by rw [ByteArray.size_append,ByteArray.size_append]; rfl]; omega
 rintro e w3 ⟨rfl,h3,hb3,-⟩
 have H3:=Lib.hid h3
 have HB3:=Lib.hid (HB2.out.trans hb3)
 clear h3 hb3 H2 HB2
 go_wp2_with fail
 go_end0
 refine⟨rfl,?_,HB3.out⟩
 have:=H3.out
 simpa using this
theorem putAll_len {l:List V}{i:Nat}(h:i<l.length):(putAll (l.take i)).length+(putL l[i]).length≤(putAll l).length:=by
 have e:putAll l=putAll (l.take (i+1))++putAll (l.drop (i+1)):=by
  conv=>lhs; rw [← List.take_append_drop (i+1) l]
  generalize l.take (i+1)=p
  induction p with
  | nil=>simp [putAll]
  | cons x r ih=>simp [putAll,ih]
 rw [e,putAll_take h,List.length_append,List.length_append]
 omega
set_option maxRecDepth 20000 in
set_option maxHeartbeats 4000000 in
theorem put1_list (B b F:Nat) (bs:List UInt8) (k n:Int) (s:ByteArray) (a:Option Addr) (c:Nat) (l:List V) (w:World) (h:PutIn B b F bs w) (hk1:k≠1) (hk2:k≠2)
 (S:Nat→Prop) (hS:Hid (∀ p,S p→p<B)) (hcm:l.length≤4611686018427387904) (hc:l.length≤c) (hall:Hid (VAll w S a 0 l)) (hlen:bs.length+((putAll l).length+2)≤140737488355328)
 (IH:Hid (∀ y∈l,∀ (cs:List Value) (bs:List UInt8) (w:World),PutIn B b F bs w→V.At w S y cs→bs.length+(putL y).length≤140737488355328 →
   Calls Tryz.prog 76 #[.agg cs.toArray,.pointer (some ⟨b,0,none⟩),.pointer (some ⟨F,0,none⟩)] w (PutPost B b F (bs++putL y) w))) :
 Calls Tryz.prog 76 #[.agg #[.int .i64 k,.int .i64 n,.string s,.slice a l.length c],.pointer (some ⟨b,0,none⟩),.pointer (some ⟨F,0,none⟩)] w (PutPost B b F (bs++108 :: (putAll l++[101])) w):=by
 have p1:(k==1)=false:=by simpa using hk1
 have p2:(k==2)=false:=by simpa using hk2
 have HN:=Lib.hid (Four.new w 70 (.int .i64 k) (.int .i64 n) (.string s) (.slice a l.length c))
 have n0:=HN.out.c0
 have H1:=Lib.hid (h.alloc (.cells #[.int .i64 k,.int .i64 n,.string s,.slice a l.length c] 70))
 have HB1:=Lib.hid ((Below.refl B w).alloc h.size (.cells #[.int .i64 k,.int .i64 n,.string s,.slice a l.length c] 70))
 have hbw:=h.bd.le
 clear h hk1 hk2
 go_enter Tryz.func76,Tryz.ntmps76
 go_wp2_with fail
 refine (put_byte B b F bs 108 108 rfl _ H1.out (by omega)).mono ?_
 rintro e w2 ⟨rfl,h2,hb2,hk2⟩
 have HN2:Hid (Four w2 w.heap.size 70 (.int .i64 k) (.int .i64 n) (.string s) (.slice a l.length c)):=Lib.hid (bdKept_cells hk2 HN.out (by omega) (by decide))
 have H2:=Lib.hid h2
 have HB2:=Lib.hid (HB1.out.trans hb2)
 clear h2 hb2 hk2 H1 HB1 HN n0
 have n3:=HN2.out.c3
 go_wp2_with fail
 go_loopg [12] l.length (fun gk v wr=>∃ (i:Nat),i≤l.length∧gk=l.length - i∧v = .int .i64 (i:Int)∧Hid (PutIn B b F (bs++108 :: putAll (l.take i)) wr)∧Hid (Below B w wr))
 case atStart=>exact⟨0,Nat.zero_le _,rfl,rfl,by simpa [putAll] using H2,HB2⟩
 case round =>
  obtain⟨i,hi,rfl,rfl,hR,hW⟩:=hrel
  clear n3
  by_cases hlt:i<l.length
  ·have hlti:(i:Int)<(l.length:Int):=by omega
   obtain⟨b1,o,cs,rfl,hb,hat,hcell⟩:=VAll.at 0 l hall.out i hlt
   have hih:=IH.out l[i] (List.getElem_mem hlt)
   have hpl:=putAll_len hlt
   have hpt:=putAll_take hlt
   have hat2:=hat
   generalize l[i]=y at *
   obtain⟨yk,yn,ys,yl⟩:=y
   simp only [V.At] at hat
   obtain⟨ya,yc,rfl,-,-,-⟩:=hat
   have hcell2:∀ j u,[Value.int .i64 yk,.int .i64 yn,.string ys,.slice ya yl.length yc][j]? = some u→wr.cell? ⟨b1,o+i*4+j,none⟩=some u:=fun j u hj=>by
    have:=hcell j u hj
    rw [Nat.zero_add] at this
    exact (World.cell?_of_block (hW.out.block b1 (hS.out b1 hb))).trans this
   have e0:=hcell2 0 _ rfl
   have e1:=hcell2 1 _ rfl
   have e2:=hcell2 2 _ rfl
   have e3:=hcell2 3 _ rfl
   rw [Nat.add_zero] at e0
   have HN3:=Lib.hid (Four.new wr 70 (.int .i64 yk) (.int .i64 yn) (.string ys) (.slice ya yl.length yc))
   have HR3:=Lib.hid (hR.out.alloc (.cells #[.int .i64 yk,.int .i64 yn,.string ys,.slice ya yl.length yc] 70))
   have HW3:=Lib.hid (hW.out.alloc hR.out.size (.cells #[.int .i64 yk,.int .i64 yn,.string ys,.slice ya yl.length yc] 70))
   have HAT:=Lib.hid (V.At.move (fun _ hp=>hp) (fun p hp=>HW3.out.block p (hS.out p hp)) _ _ hat2)
   have f0:=HR3.out.fn.cell
   have n0:=HN3.out.c0
   have n1:=HN3.out.c1
   have n2:=HN3.out.c2
   have n3:=HN3.out.c3
   have HIH:=Lib.hid hih
   have HPL:=Lib.hid hpl
   have HPT:=Lib.hid hpt
   clear hih hat2 hpl hpt hcell hcell2
   go_wp2_with fail
   refine (HIH.out _ _ _ HR3.out HAT.out (by have:=HPL.out; simp; omega)).mono ?_
   rintro e w4 ⟨rfl,hr4,hw4⟩
   have HR4:=Lib.hid hr4
   have HW4:=Lib.hid (HW3.out.trans hw4)
   clear hr4 hw4 e0 e1 e2 e3 f0 n0 n1 n2 n3
   go_wp2_with fail
   go_roundg (l.length - (i+1))
   case rel=>exact⟨i+1,hlt,rfl,by go_num,by rw [HPT.out]; simpa using HR4,HW4⟩
   case measure=>omega
  ·obtain rfl:i=l.length:=by omega
   rw [List.take_length] at hR
   go_wp2_with fail
   refine (put_byte B b F _ 101 101 rfl _ hR.out (by simp; omega)).mono ?_
   rintro e w3 ⟨rfl,h3,hb3,-⟩
   have H3:=Lib.hid h3
   have HB3:=Lib.hid (hW.out.trans hb3)
   clear h3 hb3
   go_wp2_with fail
   go_end0
   exact⟨rfl,by simpa using H3.out,HB3.out⟩
end Go.Proofs.YtlpgbmaoenncjaaGreatDoor
namespace Go.Proofs.YtlpgbmaoenncjaaGreatDoor
open Go.RowKit
set_option linter.unusedVariables false
def ptextT (B B0 b:Nat) (s:ByteArray) (w1:World):Nat→Value→World→Prop
 | 0,v,w=>v = .pointer (some ⟨B0,2,none⟩)
 | 1,v,w=>v = .string s
 | 2,v,w=>v = .int .i64 (s.size:Int)
 | 3,v,w=>v = .string ⟨(Lib.itoa (s.size:Int)).toArray⟩
 | 4,v,w=>v = .string ((⟨(Lib.itoa (s.size:Int)).toArray⟩:ByteArray)++(⟨#[58]⟩:ByteArray))
 | 5,v,w=>v = .pointer (some ⟨B0,2,none⟩)
 | 6,v,w=>v = .string s
 | 7,v,w=>v = .string ((⟨(Lib.itoa (s.size:Int)).toArray⟩:ByteArray)++(⟨#[58]⟩:ByteArray)++s)
 | _,_,_=>True
def ptextD:Nat→List Nat
 | _=>[]
theorem ptext_keep (B B0 b:Nat) (s:ByteArray) (w1:World):∀ (j:Nat) (u:Value) (w w':World),Below w.heap.size w w'→(ptextT B B0 b s w1) j u w→(ptextT B B0 b s w1) j u w'
 | 0,u,w,w',hb,h=>h
 | 1,u,w,w',hb,h=>h
 | 2,u,w,w',hb,h=>h
 | 3,u,w,w',hb,h=>h
 | 4,u,w,w',hb,h=>h
 | 5,u,w,w',hb,h=>h
 | 6,u,w,w',hb,h=>h
 | 7,u,w,w',hb,h=>h
 | _+8,u,w,w',hb,h=>trivial
set_option maxHeartbeats 4000000 in
theorem ptext_steps (B B0 b:Nat) (s:ByteArray) (w1:World) (hcell:w1.cell? ⟨B0,2,none⟩=some (.string s)) (h0:B0<w1.heap.size) (htab:Tab B w1) (hB:B≤w1.heap.size) (hil:(Lib.itoa (s.size:Int)).length+(s.size+1)≤140737488355328) {a:Act}(hs:a.tmps.size=40) (b3:a.eval (.tmp 3) = .pointer (some ⟨B0,0,none⟩)) (b1:a.eval (.tmp 1) = .pointer (some ⟨b,0,none⟩)):∀ i o,i<8→(regOf Tryz.f76 12)[i]? = some o→StepOk Tryz.prog (regOf Tryz.f76 12) a (fun w=>Below w1.heap.size w1 w) (ptextT B B0 b s w1) ptextD i o:=by
 have hz:∀ t,Nat.blt t 40=true→Nat.blt t a.tmps.size=true:=fun t h=>by rw [hs]; exact h
 have hsz:(regOf Tryz.f76 12).size=9:=by kernel_rfl
 intro i o hii ho
 match i,hii with
 | 0,_ =>
   have ho1:=opIs ho (p:=.fieldAddr 70 (.tmp 3) 2) (by kernel_rfl)
   have hg:=guardIs ho (p:=none) (by kernel_rfl)
   intro e A w hA hC hp K hk
   have x3:A.eval (.tmp 3) = .pointer (some ⟨B0,0,none⟩):=filled_base hA (by kernel_rfl) b3
   have hw:Region.wanted o (yielded (regOf Tryz.f76 12) A.tmps)=true:=wanted_free hg
   refine step_pure (v:=.pointer (some ⟨B0,2,none⟩)) hk hC hw ?_ rfl
   unfold execOp
   simp only [ho1]
   generalize A.eval=ρ at x3 ⊢
   simp [go_sem,x3]
 | 1,_ =>
   have ho1:=opIs ho (p:=.load 9 (.tmp 31)) (by kernel_rfl)
   have hg:=guardIs ho (p:=none) (by kernel_rfl)
   intro e A w hA hC hp K hk
   have x31:A.eval (.tmp 31) = .pointer (some ⟨B0,2,none⟩):=op_tmp hA hp 31 0 (by kernel_rfl) (by kernel_rfl) (by kernel_rfl) (hz _ rfl)
   have hw:Region.wanted o (yielded (regOf Tryz.f76 12) A.tmps)=true:=wanted_free hg
   refine step_pure (v:=.string s) hk hC hw ?_ rfl
   unfold execOp
   simp only [ho1]
   have e1:w.cell? ⟨B0,2,none⟩=some (.string s):=(World.cell?_of_block (hC.block _ h0)).trans hcell
   generalize A.eval=ρ at x31 ⊢
   simp [go_sem,x31,e1]
 | 2,_ =>
   have ho1:=opIs ho (p:=.call { callee:=(.builtin .len),args:=#[(.tmp 32)],argTypes:=#[9] }) (by kernel_rfl)
   have hg:=guardIs ho (p:=none) (by kernel_rfl)
   intro e A w hA hC hp K hk
   have x32:A.eval (.tmp 32) = .string s:=op_tmp hA hp 32 1 (by kernel_rfl) (by kernel_rfl) (by kernel_rfl) (hz _ rfl)
   have hw:Region.wanted o (yielded (regOf Tryz.f76 12) A.tmps)=true:=wanted_free hg
   refine step_pure (v:=.int .i64 (s.size:Int)) hk hC hw ?_ rfl
   unfold execOp
   simp only [ho1]
   generalize A.eval=ρ at x32 ⊢
   simp [go_sem,x32]
 | 3,_ =>
   have ho1:=opIs ho (p:=.call { callee:=(.value (.func 79)),args:=#[(.tmp 33)],argTypes:=#[3] }) (by kernel_rfl)
   have hg:=guardIs ho (p:=none) (by kernel_rfl)
   intro e A w hA hC hp K hk
   have x33:A.eval (.tmp 33) = .int .i64 (s.size:Int):=op_tmp hA hp 33 2 (by kernel_rfl) (by kernel_rfl) (by kernel_rfl) (hz _ rfl)
   have hw:Region.wanted o (yielded (regOf Tryz.f76 12) A.tmps)=true:=wanted_free hg
   refine step_call (f:=79) (args:=#[.int .i64 (s.size:Int)]) hk hw ?_ ?_
   ·unfold execOp
    simp only [ho1]
    have xf:∀ f,A.eval (.func f) = .func (.func f) #[] #[]:=fun _=>rfl
    generalize A.eval=ρ at x33 xf ⊢
    simp [go_sem,xf,x33]
   ·refine (itoa_any _ (by omega) (by omega) B _ (htab.on (Below.lower hC hB))).mono ?_
    rintro en w' ⟨rfl,hb'⟩
    exact⟨_,rfl,rfl,hC.trans (Below.lower hb' hC.size),fun j u _ _ _ _ h=>ptext_keep B B0 b s w1 j u w _ hb' h⟩
 | 4,_ =>
   have ho1:=opIs ho (p:=.binOp .add 9 (.tmp 34) (.const (.string ⟨#[58]⟩)) 9) (by kernel_rfl)
   have hg:=guardIs ho (p:=none) (by kernel_rfl)
   intro e A w hA hC hp K hk
   have x34:A.eval (.tmp 34) = .string ⟨(Lib.itoa (s.size:Int)).toArray⟩:=op_tmp hA hp 34 3 (by kernel_rfl) (by kernel_rfl) (by kernel_rfl) (hz _ rfl)
   have hw:Region.wanted o (yielded (regOf Tryz.f76 12) A.tmps)=true:=wanted_free hg
   refine step_pure (v:=.string ((⟨(Lib.itoa (s.size:Int)).toArray⟩:ByteArray)++(⟨#[58]⟩:ByteArray))) hk hC hw ?_ rfl
   unfold execOp
   simp only [ho1]
   have xc:∀ v,A.eval (.const v)=v:=fun _=>rfl
   have e1:(Lib.itoa (s.size:Int)).length≤9223372036854775806:=by omega
   generalize A.eval=ρ at x34 xc ⊢
   simp [go_sem,x34,xc,e1]
 | 5,_ =>
   have ho1:=opIs ho (p:=.fieldAddr 70 (.tmp 3) 2) (by kernel_rfl)
   have hg:=guardIs ho (p:=none) (by kernel_rfl)
   intro e A w hA hC hp K hk
   have x3:A.eval (.tmp 3) = .pointer (some ⟨B0,0,none⟩):=filled_base hA (by kernel_rfl) b3
   have hw:Region.wanted o (yielded (regOf Tryz.f76 12) A.tmps)=true:=wanted_free hg
   refine step_pure (v:=.pointer (some ⟨B0,2,none⟩)) hk hC hw ?_ rfl
   unfold execOp
   simp only [ho1]
   generalize A.eval=ρ at x3 ⊢
   simp [go_sem,x3]
 | 6,_ =>
   have ho1:=opIs ho (p:=.load 9 (.tmp 36)) (by kernel_rfl)
   have hg:=guardIs ho (p:=none) (by kernel_rfl)
   intro e A w hA hC hp K hk
   have x36:A.eval (.tmp 36) = .pointer (some ⟨B0,2,none⟩):=op_tmp hA hp 36 5 (by kernel_rfl) (by kernel_rfl) (by kernel_rfl) (hz _ rfl)
   have hw:Region.wanted o (yielded (regOf Tryz.f76 12) A.tmps)=true:=wanted_free hg
   refine step_pure (v:=.string s) hk hC hw ?_ rfl
   unfold execOp
   simp only [ho1]
   have e1:w.cell? ⟨B0,2,none⟩=some (.string s):=(World.cell?_of_block (hC.block _ h0)).trans hcell
   generalize A.eval=ρ at x36 ⊢
   simp [go_sem,x36,e1]
 | 7,_ =>
   have ho1:=opIs ho (p:=.binOp .add 9 (.tmp 35) (.tmp 37) 9) (by kernel_rfl)
   have hg:=guardIs ho (p:=none) (by kernel_rfl)
   intro e A w hA hC hp K hk
   have x35:A.eval (.tmp 35) = .string ((⟨(Lib.itoa (s.size:Int)).toArray⟩:ByteArray)++(⟨#[58]⟩:ByteArray)):=op_tmp hA hp 35 4 (by kernel_rfl) (by kernel_rfl) (by kernel_rfl) (hz _ rfl)
   have x37:A.eval (.tmp 37) = .string s:=op_tmp hA hp 37 6 (by kernel_rfl) (by kernel_rfl) (by kernel_rfl) (hz _ rfl)
   have hw:Region.wanted o (yielded (regOf Tryz.f76 12) A.tmps)=true:=wanted_free hg
   refine step_pure (v:=.string ((⟨(Lib.itoa (s.size:Int)).toArray⟩:ByteArray)++(⟨#[58]⟩:ByteArray)++s)) hk hC hw ?_ rfl
   unfold execOp
   simp only [ho1]
   have e1:(Lib.itoa (s.size:Int)).length+1+s.size≤9223372036854775807:=by omega
   generalize A.eval=ρ at x35 x37 ⊢
   simp [go_sem,x35,x37,e1]
 | _+8,h=>exact absurd h (by omega)
set_option maxRecDepth 20000 in
set_option maxHeartbeats 4000000 in
theorem put1_text (B b F:Nat) (bs:List UInt8) (n:Int) (s:ByteArray) (a:Option Addr) (l c:Nat) (w:World) (h:PutIn B b F bs w) (hlen:bs.length+((Lib.itoa (s.size:Int)).length+(s.size+1))≤140737488355328) :
 Calls Tryz.prog 76 #[.agg #[.int .i64 2,.int .i64 n,.string s,.slice a l c],.pointer (some ⟨b,0,none⟩),.pointer (some ⟨F,0,none⟩)] w (PutPost B b F (bs++(Lib.itoa (s.size:Int)++58 :: s.data.toList)) w):=by
 have HN:=Lib.hid (Four.new w 70 (.int .i64 2) (.int .i64 n) (.string s) (.slice a l c))
 have n0:=HN.out.c0
 have n2:=Lib.hid HN.out.c2
 have H1:=Lib.hid (h.alloc (.cells #[.int .i64 2,.int .i64 n,.string s,.slice a l c] 70))
 have HB1:=Lib.hid ((Below.refl B w).alloc h.size (.cells #[.int .i64 2,.int .i64 n,.string s,.slice a l c] 70))
 have hlt:w.heap.size<(w.alloc (.cells #[.int .i64 2,.int .i64 n,.string s,.slice a l c] 70)).heap.size:=by simp
 clear h HN
 go_enter Tryz.func76,Tryz.ntmps76
 go_wp2_with fail
 generalize w.alloc (.cells #[.int .i64 2,.int .i64 n,.string s,.slice a l c] 70)=w1 at *
 clear n0
 refine wp_region_last (regOf Tryz.f76 12) [some 31,some 32,some 33,some 34,some 35,some 36,some 37,some 38] 8 (ptextT B w.heap.size b s w1) (fun w'=>Below w1.heap.size w1 w') ptextD (by kernel_rfl) (by kernel_rfl) (by kernel_rfl) (by kernel_rfl) (by kernel_rfl) (by kernel_rfl) (by kernel_rfl) ((Below.refl _ _).drew)
  (ptext_steps B w.heap.size b s w1 n2.out hlt H1.out.tab H1.out.size (by omega) (by kernel_rfl) (by kernel_rfl) (by kernel_rfl)) ?_
 intro oL hoL vs w2 hn hCw2 hT KL hKL
 replace hn:vs.length=8:=hn
 obtain⟨v0,vs1,rfl,hn1⟩:=len_cons hn
 obtain⟨v1,vs2,rfl,hn2⟩:=len_cons hn1
 obtain⟨v2,vs3,rfl,hn3⟩:=len_cons hn2
 obtain⟨v3,vs4,rfl,hn4⟩:=len_cons hn3
 obtain⟨v4,vs5,rfl,hn5⟩:=len_cons hn4
 obtain⟨v5,vs6,rfl,hn6⟩:=len_cons hn5
 obtain⟨v6,vs7,rfl,hn7⟩:=len_cons hn6
 obtain⟨v7,vs8,rfl,hn8⟩:=len_cons hn7
 obtain rfl:=List.eq_nil_of_length_eq_zero hn8
 clear hn hn1 hn2 hn3 hn4 hn5 hn6 hn7 hn8
 obtain rfl:v0 = .pointer (some ⟨w.heap.size,2,none⟩):=hT 0 v0 rfl (by kernel_rfl)
 obtain rfl:v1 = .string s:=hT 1 v1 rfl (by kernel_rfl)
 obtain rfl:v2 = .int .i64 (s.size:Int):=hT 2 v2 rfl (by kernel_rfl)
 obtain rfl:v3 = .string ⟨(Lib.itoa (s.size:Int)).toArray⟩:=hT 3 v3 rfl (by kernel_rfl)
 obtain rfl:v4 = .string ((⟨(Lib.itoa (s.size:Int)).toArray⟩:ByteArray)++(⟨#[58]⟩:ByteArray)):=hT 4 v4 rfl (by kernel_rfl)
 obtain rfl:v5 = .pointer (some ⟨w.heap.size,2,none⟩):=hT 5 v5 rfl (by kernel_rfl)
 obtain rfl:v6 = .string s:=hT 6 v6 rfl (by kernel_rfl)
 obtain rfl:v7 = .string ((⟨(Lib.itoa (s.size:Int)).toArray⟩:ByteArray)++(⟨#[58]⟩:ByteArray)++s):=hT 7 v7 rfl (by kernel_rfl)
 clear hT
 have hoL1:=opIs hoL (p:=.call { callee:=(.value (.func 77)),args:=#[(.tmp 1),(.tmp 38)],argTypes:=#[122,9] }) (by kernel_rfl)
 have hgL:=guardIs hoL (p:=none) (by kernel_rfl)
 have hdL:oL.dst=some 39:=by have:=(show ((regOf Tryz.f76 12)[8]?).map (·.dst)=some (some 39) by kernel_rfl); rw [hoL] at this; simpa using this
 rw [if_pos (wanted_free hgL)]
 rw [hdL] at hKL
 simp only [puts,Act.put,List.setIfInBounds_toArray,List.set_cons_succ,List.set_cons_zero] at hKL ⊢
 unfold Oper.wp
 rw [show (execOp _ oL).run Tryz.prog w2 = .ok (.enter 77 #[.pointer (some ⟨b,0,none⟩),.string (⟨(Lib.itoa (s.size:Int)).toArray⟩++(⟨#[58]⟩:ByteArray)++s)]) w2 by unfold execOp; simp only [hoL1]; simp [go_sem]]
 have H2:=H1.out.under hCw2
 refine (put_write B b F bs _ w2 H2 ?_).mono ?_
 ·rw [show ((⟨(Lib.itoa (s.size:Int)).toArray⟩:ByteArray)++(⟨#[58]⟩:ByteArray)++s).size=(Lib.itoa (s.size:Int)).length+1+s.size by rw [ByteArray.size_append,ByteArray.size_append]; rfl]; omega
 rintro e w3 ⟨rfl,h3,hb3,-⟩
 dsimp only
 rw [hdL]
 refine hKL _ _ ?_
 have H3:=Lib.hid h3
 have HB3:=Lib.hid ((HB1.out.trans (Below.lower hCw2 H1.out.size)).trans hb3)
 clear h3 hb3 hCw2 hKL
 go_wp2_with fail
 go_end0
 refine⟨rfl,?_,HB3.out⟩
 have:=H3.out
 simpa using this
end Go.Proofs.YtlpgbmaoenncjaaGreatDoor
namespace Go.Proofs.YtlpgbmaoenncjaaGreatDoor
open Go.RowKit
set_option linter.unusedVariables false
mutual
def V.InR:V→Prop
 | .mk k n s l=>(-9223372036854775808≤n∧n≤9223372036854775807)∧allInR l
def allInR:List V→Prop
 | []=>True
 | x :: r=>x.InR∧allInR r
end
theorem allInR_mem:∀ {l:List V}{x:V},allInR l→x∈l→x.InR
 | y :: r,x,h,hx=>by
   simp only [allInR] at h
   rcases List.mem_cons.1 hx with rfl | hx
   ·exact h.1
   ·exact allInR_mem h.2 hx
theorem put1_any (B b F:Nat) (S:Nat→Prop) (hS:∀ p,S p→p<B):∀ (f:Nat) (x:V),x.cnt≤f→x.cnt≤4611686018427387904→x.InR→∀ (cs:List Value) (bs:List UInt8) (w:World),PutIn B b F bs w→V.At w S x cs→bs.length+(putL x).length≤140737488355328 →
 Calls Tryz.prog 76 #[.agg cs.toArray,.pointer (some ⟨b,0,none⟩),.pointer (some ⟨F,0,none⟩)] w (PutPost B b F (bs++putL x) w)
 | 0,.mk k n s l,hf,_,_,_,_,_,_,_,_=>by simp only [V.cnt] at hf; omega
 | f+1,.mk k n s l,hf,hcnt,hr,cs,bs,w,h,hat,hlen=>by
   simp only [V.cnt] at hf hcnt
   simp only [V.At] at hat
   simp only [V.InR] at hr
   obtain⟨a,c,rfl,hc,-,hall⟩:=hat
   by_cases h1:k=1
   ·subst h1
    rw [putL,if_pos rfl] at hlen ⊢
    exact put1_num B b F bs n s a _ c w h hr.1.1 hr.1.2 (by simpa using hlen)
   ·by_cases h2:k=2
    ·subst h2
     rw [putL,if_neg (by decide),if_pos rfl] at hlen ⊢
     exact put1_text B b F bs n s a _ c w h (by simpa using hlen)
    ·rw [putL,if_neg h1,if_neg h2] at hlen ⊢
     refine put1_list B b F bs k n s a c l w h h1 h2 S (Lib.hid hS) (by have:=cntAll_ge l; omega) hc (Lib.hid hall) (by simp at hlen; omega) (Lib.hid ?_)
     intro y hy cs2 bs2 w2 h3 hat2 hlen2
     exact put1_any B b F S hS f y (by have:=cntAll_mem hy; omega) (by have:=cntAll_mem hy; omega) (allInR_mem hr.2 hy) cs2 bs2 w2 h3 hat2 hlen2
def putGot (x:V):ByteArray × Int:=if rightL x≠0 then (⟨#[]⟩,rightL x) else if 131072<(putL x).length then (⟨#[]⟩,2) else (⟨(putL x).toArray⟩,0)
set_option maxRecDepth 20000 in
set_option maxHeartbeats 4000000 in
theorem put_any (S:Nat→Prop) (x:V) (cs:List Value) (w:World) (hS:∀ b,S b→b<w.heap.size) (hat:V.At w S x cs) (hcnt:x.cnt≤4611686018427387904) (hr:x.InR) (hlen:(putL x).length≤140737488355328)
 (htab:Lib.TabIs Tryz.prog w "internal/strconv.uint64pow10" .u64 Lib.pow10Tab) (g:ByteArray × Int) (hg:Hid (g=putGot x)) :
 Calls Tryz.prog 36 #[.agg cs.toArray] w (fun e w'=>e = .returned (.tuple #[.string g.1,.int .i64 g.2])∧Below w.heap.size w w'):=by
 have HR:Hid (∀ (w1:World),(∀ b,S b→b<w1.heap.size)→V.At w1 S x cs→Calls Tryz.prog 75 #[.agg cs.toArray] w1 (fun e w'=>e = .returned (.int .i64 (rightL x))∧Below w1.heap.size w1 w')) :=
  Lib.hid fun w1 h1 h2=>right_any S x cs w1 h1 h2 hcnt _ (Lib.hid rfl)
 have HP:Hid (∀ (B b F:Nat) (w1:World),(∀ p,S p→p<B)→PutIn B b F [] w1→V.At w1 S x cs→Calls Tryz.prog 76 #[.agg cs.toArray,.pointer (some ⟨b,0,none⟩),.pointer (some ⟨F,0,none⟩)] w1 (PutPost B b F (putL x) w1)) :=
  Lib.hid fun B b F w1 h1 h2 h3=>put1_any B b F S h1 x.cnt x (Nat.le_refl _) hcnt hr cs [] w1 h2 h3 (by simpa using hlen)
 have HG:Hid (g=if rightL x≠0 then (⟨#[]⟩,rightL x) else if 131072<(putL x).length then (⟨#[]⟩,2) else (⟨(putL x).toArray⟩,0)):=hg
 generalize rightL x=y at HR HG
 have HL:=Lib.hid hlen
 generalize putL x=bs at HP HG HL
 have HAT:=Lib.hid hat
 have HS:=Lib.hid hS
 have HT:=Lib.hid htab
 clear hg hS hr hlen hcnt htab
 obtain⟨k,n,s,l⟩:=x
 simp only [V.At] at hat
 obtain⟨a,c,rfl,-,-,-⟩:=hat
 have hmf:∀ fn first cap w,(Instr.makeFunc fn first cap).run Tryz.prog w = .ok (.func fn first cap) w:=fun _ _ _ _=>rfl
 have HN:=Lib.hid (Four.new w 70 (.int .i64 k) (.int .i64 n) (.string s) (.slice a l.length c))
 have n0:=HN.out.c0
 have n1:=HN.out.c1
 have n2:=HN.out.c2
 have n3:=HN.out.c3
 have HB1:=Lib.hid ((Below.refl w.heap.size w).alloc (Nat.le_refl _) (.cells #[.int .i64 k,.int .i64 n,.string s,.slice a l.length c] 70))
 have HA1:=Lib.hid (V.At.move (fun _ hp=>hp) (fun p hp=>HB1.out.block p (HS.out p hp)) _ _ HAT.out)
 have hs1:(w.alloc (.cells #[.int .i64 k,.int .i64 n,.string s,.slice a l.length c] 70)).heap.size=w.heap.size+1:=by simp
 go_enter Tryz.func36,Tryz.ntmps36
 go_wp2_with fail
 refine (HR.out _ (fun p hp=>by rw [hs1]; have:=HS.out p hp; omega) HA1.out).mono ?_
 rintro e w2 ⟨rfl,hb2⟩
 have HN2:Hid (Four w2 w.heap.size 70 (.int .i64 k) (.int .i64 n) (.string s) (.slice a l.length c)):=Lib.hid ((hb2.block _ (by rw [hs1]; omega)).trans HN.out)
 have HB2:=Lib.hid (HB1.out.trans (Below.lower hb2 (by rw [hs1]; omega)))
 have hs2:=hb2.size
 rw [hs1] at hs2
 clear n0 n1 n2 n3 HB1 HA1 hb2 HN HR hs1
 by_cases hy:y=0
 ·subst hy
  have HG2:Hid (g=if 131072<bs.length then (⟨#[]⟩,2) else (⟨bs.toArray⟩,0)):=Lib.hid (by rw [HG.out,if_neg (by simp)])
  clear HG
  have n0:=(Four.alloc (Four.alloc HN2.out (.cells #[.pointer none,.slice none 0 0] 122)) (.cells #[putFn w2.heap.size (w2.heap.size+1)] 123)).c0
  have n1:=(Four.alloc (Four.alloc HN2.out (.cells #[.pointer none,.slice none 0 0] 122)) (.cells #[putFn w2.heap.size (w2.heap.size+1)] 123)).c1
  have n2:=(Four.alloc (Four.alloc HN2.out (.cells #[.pointer none,.slice none 0 0] 122)) (.cells #[putFn w2.heap.size (w2.heap.size+1)] 123)).c2
  have n3:=(Four.alloc (Four.alloc HN2.out (.cells #[.pointer none,.slice none 0 0] 122)) (.cells #[putFn w2.heap.size (w2.heap.size+1)] 123)).c3
  go_wp2_with fail
  clear n0 n1 n2 n3
  have HB5:Hid (Below w2.heap.size w2 ((w2.alloc (.cells #[.pointer none,.slice none 0 0] 122)).alloc (.cells #[putFn w2.heap.size (w2.heap.size+1)] 123))):=Lib.hid (((Below.refl _ w2).alloc (Nat.le_refl _) _).alloc (by simp) _)
  have HI5:Hid (PutIn w2.heap.size w2.heap.size (w2.heap.size+1) [] ((w2.alloc (.cells #[.pointer none,.slice none 0 0] 122)).alloc (.cells #[putFn w2.heap.size (w2.heap.size+1)] 123))) :=
   Lib.hid ⟨(Lib.IsBuilderF.of (Lib.fresh_isBuilder _ _ w2)).alloc _,Boxed.fresh (by simp) _ _,(Lib.tabBelow_of_tabIs (Lib.tabBelow_of_tabIs HT.out w2 HB2.out)).on HB5.out,by omega⟩
  have HA5:=Lib.hid (V.At.move (fun _ hp=>hp) (fun p hp=>(HB2.out.trans (Below.lower HB5.out (by omega))).block p (HS.out p hp)) _ _ HAT.out)
  refine (HP.out w2.heap.size w2.heap.size (w2.heap.size+1) _ (fun p hp=>by have:=HS.out p hp; omega) HI5.out HA5.out).mono ?_
  rintro e w6 ⟨rfl,hi6,hb6⟩
  have HI6:=Lib.hid hi6
  have HB6:=Lib.hid (HB2.out.trans (Below.lower (HB5.out.trans hb6) (by omega)))
  clear HB5 HI5 HA5 hi6 hb6 HP HAT HB2 HN2
  go_wp2_with fail
  refine (Tryz.Builder_Len_f w2.heap.size w2.heap.size _ w6 HI6.out.bd).mono ?_
  rintro e w7 ⟨rfl,rfl⟩
  rw [Lib.byteCells_length]
  by_cases hl:131072<bs.length
  ·have hl2:(131072:Int)<(bs.length:Int):=by omega
   have HG3:Hid (g=(⟨#[]⟩,2)):=Lib.hid (by rw [HG2.out,if_pos hl])
   clear HG2 hl
   go_wp2_with fail
   go_ret2
   exact⟨by rw [HG3.out]; rfl,HB6.out⟩
  ·have hl2:(bs.length:Int)≤131072:=by omega
   have HG3:Hid (g=(⟨bs.toArray⟩,0)):=Lib.hid (by rw [HG2.out,if_neg hl])
   clear HG2 hl
   go_wp2_with fail
   refine (Tryz.Builder_String_any_f w2.heap.size w2.heap.size bs w7 HI6.out.bd (by have:=HB6.out.size; have:=HI6.out.size; omega)).mono ?_
   rintro e w8 ⟨rfl,h8⟩
   have HB8:=Lib.hid h8
   clear h8
   go_wp2_with fail
   go_ret2
   exact⟨by rw [HG3.out]; rfl,HB6.out.trans (Below.lower HB8.out.2 (by omega))⟩
 ·have p1:(y != 0)=true:=by simpa using hy
  have p2:(y==0)=false:=by simpa using hy
  have HG2:Hid (g=(⟨#[]⟩,y)):=Lib.hid (by rw [HG.out,if_pos hy])
  clear HG hy
  go_wp2_with fail
  go_ret2
  exact⟨by rw [HG2.out]; rfl,HB2.out⟩
end Go.Proofs.YtlpgbmaoenncjaaGreatDoor
namespace Go.Proofs.YtlpgbmaoenncjaaGreatDoor
open Go.RowKit
set_option linter.unusedVariables false
theorem numTail_inR (s:ByteArray) (most:Nat) (h9:9≤most) (mi:Bool) (hm:most≤if mi=true then 9223372036854775808 else 9223372036854775807) (a:Nat):-9223372036854775808≤(numTail s most mi a).1∧(numTail s most mi a).1≤9223372036854775807:=by
 unfold numTail
 by_cases h1:(digitsL s most a (s.size+1 - a) 0 a).2.1=true
 ·rw [if_pos h1]
  obtain⟨-,h2,-,-⟩:=digitsL_ok s most a h9 (s.size+1 - a) 0 a (Nat.le_refl _) (Nat.zero_le _) h1
  generalize digitsL s most a (s.size+1 - a) 0 a=x at *
  by_cases h3:(mustL s x.2.2.1 101).1=true
  ·rw [if_pos h3]
   cases mi with
   | true=>simp only [if_true] at hm ⊢; omega
   | false=>simp only [Bool.false_eq_true,if_false] at hm ⊢; omega
  ·rw [if_neg h3]; simp
 ·rw [if_neg h1]; simp
theorem numberL_inR (s:ByteArray) (a:Nat):-9223372036854775808≤(numberL s a).1∧(numberL s a).1≤9223372036854775807:=by
 unfold numberL
 by_cases h1:s.data.toList[a]? = some 45
 ·rw [if_pos h1]
  by_cases h2:s.data.toList[a+1]? = some 48
  ·rw [if_pos h2]; simp
  ·rw [if_neg h2]; exact numTail_inR s _ (by decide) true (by simp) _
 ·rw [if_neg h1]; exact numTail_inR s _ (by decide) false (by simp) _
theorem zero_inR:zeroV.InR:=by simp [zeroV,V.InR,allInR]
theorem allInR_snoc {l:List V}{x:V}(h:allInR l) (hx:x.InR):allInR (l++[x]):=by
 induction l with
 | nil=>simp [allInR,hx]
 | cons y r ih=>simp only [List.cons_append,allInR] at h ⊢; exact⟨h.1,ih h.2⟩
theorem rdText_inR (s:ByteArray) (a m:Nat):(rdText s a m).v.InR:=by
 unfold rdText
 split
 ·split
  ·split
   ·exact zero_inR
   ·simp [V.InR,allInR]
  ·exact zero_inR
 ·exact zero_inR
theorem rdList_inR (rd:Nat→Nat→Rd) (s:ByteArray) (hrd:∀ a m,(rd a m).v.InR):∀ (f a m:Nat) (acc:List V),allInR acc→(rdList rd s f a m acc).v.InR
 | 0,a,m,acc,_=>zero_inR
 | f+1,a,m,acc,h=>by
   rw [rdList]
   split
   ·simp [V.InR]; exact h
   ·split
    ·exact rdList_inR rd s hrd f _ _ _ (allInR_snoc h (hrd a m))
    ·exact zero_inR
theorem rdValue_inR (s:ByteArray):∀ (d a m:Nat),(rdValue s d a m).v.InR
 | 0,a,m=>by
   rw [rdValue]
   split
   ·exact zero_inR
   ·split <;> exact zero_inR
 | d+1,a,m=>by
   rw [rdValue]
   split
   ·exact zero_inR
   ·split
    ·split
     ·exact zero_inR
     ·split
      ·have:=numberL_inR s (a+1); simp only [rdNumber,V.InR,allInR]; exact⟨this,trivial⟩
      ·split
       ·exact rdList_inR _ s (rdValue_inR s d) _ _ _ _ (by simp [allInR])
       ·exact rdText_inR s a _
    ·exact zero_inR
theorem toArray_of (s:ByteArray) {l:List UInt8}(h:s.data.toList=l):(⟨l.toArray⟩:ByteArray)=s:=by
 subst h; cases s; simp
theorem getL_ok (s:ByteArray) (h:(getL s).bad=0):(getL s).at_=0∧putGot (getL s).v=(s,0)∧(getL s).v.cnt≤4000∧(getL s).v.InR∧(putL (getL s).v).length≤131072:=by
 have hno:=rdValue_no s 30 0 0 (Nat.zero_le _) (by decide)
 have hgd:=rdValue_good s 30 0 0 (by decide)
 have hsp:=rdValue_spell s 30 0 0
 have hin:=rdValue_inR s 30 0 0
 unfold getL at h ⊢
 by_cases h1:131072<s.size
 ·rw [if_pos h1] at h; simp at h
 ·rw [if_neg h1] at h ⊢
  by_cases h2:(rdValue s 30 0 0).ok=true
  ·rw [if_pos h2] at h ⊢
   by_cases h3:(rdValue s 30 0 0).at_<s.size
   ·rw [if_pos h3] at h; simp at h
   ·rw [if_neg h3]
    obtain⟨-,-,h4,h5⟩:=hgd h2
    obtain⟨h6,h7,h8⟩:=hsp h2
    generalize rdValue s 30 0 0=x at *
    have hc:x.v.cnt≤4000:=by omega
    have hlist:s.data.toList=putL x.v:=by
     have e:from_ s x.at_=[]:=by
      unfold from_
      exact List.drop_eq_nil_of_le (by simp; omega)
     rw [e,List.append_nil] at h6
     simpa [from_] using h6
    have hlen:(putL x.v).length=s.size:=by rw [← hlist]; simp
    have hright:rightL x.v=0:=by
     have:=rightGo_to x.v 30 1 ⟨0,0,true⟩ h8 (by dsimp only; omega)
     dsimp only at this
     unfold rightL
     dsimp only
     rw [if_neg (by omega),if_neg (by omega),this.2.2]
     rfl
    refine⟨rfl,?_,hc,hin,by dsimp only; omega⟩
    unfold putGot
    dsimp only
    rw [hright,if_neg (by simp),if_neg (by omega),toArray_of s hlist]
  ·rw [if_neg h2] at h
   exact absurd h (hno h2).1
end Go.Proofs.YtlpgbmaoenncjaaGreatDoor
namespace Go.Proofs.YtlpgbmaoenncjaaGreatDoor
open Go.RowKit
set_option linter.unusedVariables false
theorem from_size {s:ByteArray}{a:Nat}{l:List UInt8}(h:from_ s a=l) (h0:l≠[]):a<s.size∧a+l.length=s.size:=by
 have h1:=congrArg List.length h
 simp [from_] at h1
 have:0<l.length:=List.length_pos_iff.2 h0
 omega
theorem from_app {s:ByteArray}{a:Nat}{l r:List UInt8}(h:from_ s a=l++r):from_ s (a+l.length)=r:=by
 have:=congrArg (List.drop l.length) h
 simpa [from_,List.drop_drop] using this
theorem from_head {s:ByteArray}{a:Nat}{c:UInt8}{r:List UInt8}(h:from_ s a=c :: r):s.data.toList[a]? = some c:=by
 have:=congrArg (fun l:List UInt8=>l[0]?) h
 simpa [from_] using this
theorem at_of {s:ByteArray}{a:Nat}{c:UInt8}(h:s.data.toList[a]? = some c) (h1:a<s.size):s[a]=c:=by
 have:=at_lt h1
 rw [h] at this
 exact (Option.some.inj this).symm
theorem ofNat_digit {d:Nat}(h:d<10):(UInt8.ofNat (48+d)).toNat=48+d:=by
 rw [UInt8.toNat_ofNat']; omega
theorem digits_read (s:ByteArray) (most b:Nat) (h9:9≤most) (N:Nat):N≤most→∀ (f:Nat) (rest:List UInt8),from_ s b=Lib.decDigits N++rest →
 digitsL s most b (f+(Lib.decDigits N).length) 0 b=digitsL s most b f N (b+(Lib.decDigits N).length):=by
 induction N using Nat.strongRecOn with
 | _ N ih =>
   intro hN f rest h
   by_cases h1:N<10
   ·rw [Lib.decDigits,dif_pos h1] at h ⊢
    obtain⟨h2,-⟩:=from_size h (by simp)
    have h3:=at_of (from_head h) h2
    have h4:s[b].toNat=48+N:=by rw [h3]; exact ofNat_digit h1
    show digitsL s most b (f+1) 0 b=_
    rw [digitsL,dif_pos h2,if_neg (by omega),if_neg (by omega),h4]
    simp
   ·have hdec:Lib.decDigits N=Lib.decDigits (N / 10)++[UInt8.ofNat (48+N % 10)]:=by rw [Lib.decDigits,dif_neg h1]
    rw [hdec] at h ⊢
    rw [List.append_assoc] at h
    have h2:=ih (N / 10) (by omega) (by omega) (f+1) _ h
    have h3:=from_app h
    obtain⟨h4,-⟩:=from_size h3 (by simp)
    have h5:=at_of (from_head h3) h4
    have h6:s[b+(Lib.decDigits (N / 10)).length].toNat=48+N % 10:=by rw [h5]; exact ofNat_digit (by omega)
    rw [List.length_append,show f+((Lib.decDigits (N / 10)).length+[UInt8.ofNat (48+N % 10)].length)=f+1+(Lib.decDigits (N / 10)).length by simp; omega,h2]
    rw [digitsL,dif_pos h4,if_neg (by omega),if_neg (by omega),h6]
    congr 1
    ·omega
theorem dec_cons (N:Nat):∃ (d:UInt8) (r:List UInt8),Lib.decDigits N=d :: r∧48≤d.toNat∧d.toNat≤57∧(1≤N→d≠48):=by
 induction N using Nat.strongRecOn with
 | _ N ih =>
   by_cases h1:N<10
   ·rw [Lib.decDigits,dif_pos h1]
    have:=ofNat_digit h1
    refine⟨_,_,rfl,by omega,by omega,fun h e=>?_⟩
    rw [e] at this
    have h2:(48:UInt8).toNat=48:=rfl
    omega
   ·obtain⟨d,r,h2,h3,h4,h5⟩:=ih (N / 10) (by omega)
    rw [Lib.decDigits,dif_neg h1,h2]
    exact⟨d,r++[UInt8.ofNat (48+N % 10)],rfl,h3,h4,fun _=>h5 (by omega)⟩
theorem digits_end (s:ByteArray) (most b N:Nat) (h9:9≤most) (hN:N≤most) (c:UInt8) (rest:List UInt8) (hc:c.toNat<48∨57<c.toNat) (h:from_ s b=Lib.decDigits N++c :: rest) :
 digitsL s most b (s.size+1 - b) 0 b=(N,true,b+(Lib.decDigits N).length,0):=by
 obtain⟨h1,h2⟩:=from_size h (by simp)
 rw [List.length_append,List.length_cons] at h2
 obtain⟨d,r,h3,-⟩:=dec_cons N
 have h4:=from_app h
 obtain⟨h5,-⟩:=from_size h4 (by simp)
 have h6:=at_of (from_head h4) h5
 have h7:1≤(Lib.decDigits N).length:=by rw [h3]; simp
 rw [show s.size+1 - b=(rest.length+1+1)+(Lib.decDigits N).length by omega,digits_read s most b h9 N hN _ _ h,digitsL,dif_pos h5,if_pos (by rw [h6]; exact hc),if_neg (by omega)]
theorem must_read (s:ByteArray) (a:Nat) (c:UInt8) (rest:List UInt8) (h:from_ s a=c :: rest):mustL s a c=(true,a+1,0):=by
 obtain⟨h1,-⟩:=from_size h (by simp)
 unfold mustL
 rw [dif_pos h1,if_pos (at_of (from_head h) h1)]
theorem numTail_read (s:ByteArray) (most:Nat) (h9:9≤most) (mi:Bool) (a N:Nat) (hN:N≤most) (rest:List UInt8) (h:from_ s a=Lib.decDigits N++101 :: rest) :
 numTail s most mi a=((if mi=true then -(N:Int) else (N:Int)),true,a+(Lib.decDigits N).length+1,0):=by
 unfold numTail
 rw [digits_end s most a N h9 hN 101 rest (by decide) h]
 dsimp only
 rw [must_read s _ 101 rest (from_app h)]
 simp
theorem number_read (s:ByteArray) (a:Nat) (n:Int) (h0:-9223372036854775808≤n) (h1:n≤9223372036854775807) (rest:List UInt8) (h:from_ s a=Lib.itoa n++101 :: rest) :
 numberL s a=(n,true,a+(Lib.itoa n).length+1,0):=by
 unfold numberL
 by_cases hn:n<0
 ·have e:Lib.itoa n=45 :: Lib.decDigits n.natAbs:=by unfold Lib.itoa; rw [if_pos hn]
  rw [e] at h ⊢
  obtain⟨d,r,h3,h4,h5,h6⟩:=dec_cons n.natAbs
  have h7:from_ s (a+1)=Lib.decDigits n.natAbs++101 :: rest:=from_app (l:=[45]) h
  have h8:s.data.toList[a+1]? = some d:=from_head (r:=r++101 :: rest) (by rw [h7,h3]; rfl)
  rw [if_pos (from_head h),if_neg (by rw [h8]; intro e; exact h6 (by omega) (Option.some.inj e)),numTail_read s _ (by decide) true _ n.natAbs (by omega) rest h7]
  simp only [if_true,List.length_cons]
  have e1:-(n.natAbs:Int)=n:=by omega
  have e2:a+1+(Lib.decDigits n.natAbs).length+1=a+((Lib.decDigits n.natAbs).length+1)+1:=by omega
  rw [e1,e2]
 ·have e:Lib.itoa n=Lib.decDigits n.toNat:=by unfold Lib.itoa; rw [if_neg hn]
  rw [e] at h ⊢
  obtain⟨d,r,h3,h4,h5,h6⟩:=dec_cons n.toNat
  have h8:s.data.toList[a]? = some d:=from_head (r:=r++101 :: rest) (by rw [h,h3]; rfl)
  rw [if_neg (by rw [h8]; intro e; have:=Option.some.inj e; rw [this] at h4; have h2:(45:UInt8).toNat=45:=rfl; omega),numTail_read s _ (by decide) false _ n.toNat (by omega) rest h]
  have e1:((n.toNat:Nat):Int)=n:=by omega
  simp [e1]
theorem put_head:∀ (v:V) (d:Nat),RightTo d v→∃ c r,putL v=c :: r∧begins c=true∧c≠101
 | .mk k n s l,0,h=>by simp only [RightTo] at h
 | .mk k n s l,d+1,h=>by
   rw [putL]
   split
   ·exact⟨105,_,rfl,rfl,by decide⟩
   ·split
    ·obtain⟨c,r,h3,h4,h5,-⟩:=dec_cons s.size
     have e:Lib.itoa (s.size:Int)=Lib.decDigits s.size:=by unfold Lib.itoa; rw [if_neg (by omega)]; rfl
     rw [e,h3]
     refine⟨c,r++58 :: s.data.toList,rfl,by simp [begins,h4,h5],fun e=>?_⟩
     rw [e] at h5
     have h2:(101:UInt8).toNat=101:=rfl
     omega
    ·exact⟨108,_,rfl,rfl,by decide⟩
theorem right_forms {k n:Int}{s:ByteArray}{l:List V}(h:rightOne k n s l=true):(k=1∧s=⟨#[]⟩∧l=[])∨(k=2∧n=0∧l=[])∨(k=3∧n=0∧s=⟨#[]⟩):=by
 unfold rightOne at h
 split at h
 ·simp at h; exact .inl ⟨by assumption,h.1,h.2⟩
 ·split at h
  ·simp at h; exact .inr (.inl ⟨by assumption,h.1,h.2⟩)
  ·split at h
   ·simp at h; exact .inr (.inr ⟨by assumption,h.1,h.2⟩)
   ·cases h
theorem text_read (s t:ByteArray) (a m:Nat) (rest:List UInt8) (hs:s.size≤131072) (h:from_ s a=Lib.itoa (t.size:Int)++58 :: (t.data.toList++rest)) :
 rdText s a m=⟨.mk 2 0 t [],true,a+(Lib.itoa (t.size:Int)).length+1+t.size,m,0⟩:=by
 have e:Lib.itoa (t.size:Int)=Lib.decDigits t.size:=by unfold Lib.itoa; rw [if_neg (by omega)]; rfl
 rw [e] at h ⊢
 obtain⟨h1,h2⟩:=from_size h (by simp)
 have htl:t.data.toList.length=t.size:=by simp
 rw [List.length_append,List.length_cons,List.length_append,htl] at h2
 have h3:=from_app h
 have h4:=from_app (l:=[58]) h3
 rw [List.length_singleton] at h4
 unfold rdText
 rw [digits_end s 131072 a t.size (by decide) (by omega) 58 _ (by decide) h]
 dsimp only
 rw [must_read s _ 58 _ h3,if_pos rfl]
 dsimp only
 rw [if_pos rfl,if_neg (by omega)]
 have h5:s.extract (a+(Lib.decDigits t.size).length+1) (a+(Lib.decDigits t.size).length+1+t.size)=t:=by
  have h6:=(extract_list s (a+(Lib.decDigits t.size).length+1) t.size (by omega)).1
  rw [show from_ s (a+(Lib.decDigits t.size).length+1)=t.data.toList++rest from h4,List.take_left' htl] at h6
  generalize s.extract _ _=u at h6
  have:=toArray_of u h6
  rw [← this]
 rw [h5]
theorem putL_one (n:Int) (s:ByteArray) (l:List V):putL (.mk 1 n s l)=105 :: (Lib.itoa n++[101]):=by rw [putL,if_pos rfl]
theorem putL_two (n:Int) (s:ByteArray) (l:List V):putL (.mk 2 n s l)=Lib.itoa (s.size:Int)++58 :: s.data.toList:=by rw [putL,if_neg (by decide),if_pos rfl]
theorem putL_three (n:Int) (s:ByteArray) (l:List V):putL (.mk 3 n s l)=108 :: (putAll l++[101]):=by rw [putL,if_neg (by decide),if_neg (by decide)]
theorem putAll_ge:∀ (l:List V) (d:Nat),(∀ y∈l,RightTo d y)→l.length≤(putAll l).length
 | [],d,_=>Nat.zero_le _
 | x :: r,d,h=>by
   obtain⟨c,q,h1,-,-⟩:=put_head x d (h x (List.mem_cons_self ..))
   have:=putAll_ge r d (fun y hy=>h y (List.mem_cons_of_mem _ hy))
   rw [putAll,h1]
   simp
   omega
mutual
theorem value_read (s:ByteArray) (hs:s.size≤131072):∀ (v:V) (d a m:Nat) (rest:List UInt8),RightTo d v→v.InR→m+v.cnt≤4000→from_ s a=putL v++rest→rdValue s d a m=⟨v,true,a+(putL v).length,m+v.cnt,0⟩
 | .mk k n t l,0,a,m,rest,h,_,_,_=>by simp only [RightTo] at h
 | .mk k n t l,d+1,a,m,rest,h,hr,hm,hf=>by
   obtain⟨c,r,h1,h2,h3⟩:=put_head _ _ h
   have hat:s.data.toList[a]? = some c:=from_head (r:=r++rest) (by rw [hf,h1]; rfl)
   simp only [RightTo] at h
   simp only [V.InR] at hr
   have hc:V.cnt (.mk k n t l)=1+cntAll l:=by rw [V.cnt]
   rw [hc] at hm ⊢
   rw [rdValue,hat]
   dsimp only
   rw [if_pos h2,if_neg (by omega)]
   rcases right_forms h.1 with ⟨rfl,rfl,rfl⟩ | ⟨rfl,rfl,rfl⟩ | ⟨rfl,rfl,rfl⟩
   ·rw [putL_one] at hf h1 ⊢
    obtain rfl:c=105:=by injection h1 with e _; exact e.symm
    rw [if_pos rfl]
    have h4:from_ s (a+1)=Lib.itoa n++101 :: rest:=by have:=from_app (l:=[105]) (r:=Lib.itoa n++101 :: rest) (by rw [hf]; simp); simpa using this
    unfold rdNumber
    rw [number_read s (a+1) n hr.1.1 hr.1.2 rest h4]
    simp [cntAll]
    omega
   ·rw [putL_two] at hf h1 ⊢
    have hd:c≠105∧c≠108:=by
     obtain⟨c',r',h5,h6,h7,-⟩:=dec_cons t.size
     have e:Lib.itoa (t.size:Int)=Lib.decDigits t.size:=by unfold Lib.itoa; rw [if_neg (by omega)]; rfl
     rw [e,h5] at h1
     obtain rfl:c'=c:=by injection h1
     constructor
     ·intro e; rw [e] at h7; have:(105:UInt8).toNat=105:=rfl; omega
     ·intro e; rw [e] at h7; have:(108:UInt8).toNat=108:=rfl; omega
    rw [if_neg hd.1,if_neg hd.2,text_read s t a (m+1) rest hs (by rw [hf]; simp)]
    simp [cntAll]
    omega
   ·rw [putL_three] at hf h1 ⊢
    obtain rfl:c=108:=by injection h1 with e _; exact e.symm
    rw [if_neg (show ¬ ((108:UInt8)=105) by decide),if_pos rfl]
    have h4:from_ s (a+1)=putAll l++101 :: rest:=by have:=from_app (l:=[108]) (r:=putAll l++101 :: rest) (by rw [hf]; simp); simpa using this
    obtain⟨h5,h6⟩:=from_size h4 (by simp)
    rw [List.length_append,List.length_cons] at h6
    have h7:=putAll_ge l d h.2
    rw [list_read s hs d l _ (a+1) (m+1) [] rest h.2 hr.2 (by omega) (by omega) h4]
    simp
    omega
theorem list_read (s:ByteArray) (hs:s.size≤131072) (d:Nat):∀ (l:List V) (f a m:Nat) (acc:List V) (rest:List UInt8),(∀ y∈l,RightTo d y)→allInR l→m+cntAll l≤4000→l.length<f→from_ s a=putAll l++101 :: rest →
 rdList (rdValue s d) s f a m acc=⟨.mk 3 0 ⟨#[]⟩ (acc++l),true,a+(putAll l).length+1,m+cntAll l,0⟩
 | [],0,a,m,acc,rest,_,_,_,hf,_=>by simp at hf
 | [],f+1,a,m,acc,rest,_,_,_,_,h=>by
   rw [putAll,List.nil_append] at h
   rw [rdList,if_pos (from_head h)]
   simp [putAll,cntAll]
 | x :: r,0,a,m,acc,rest,_,_,_,hf,_=>by simp at hf
 | x :: r,f+1,a,m,acc,rest,hd,hr,hm,hf,h=>by
   simp only [allInR] at hr
   rw [cntAll] at hm ⊢
   rw [putAll] at h ⊢
   rw [List.append_assoc] at h
   have hx:=hd x (List.mem_cons_self ..)
   obtain⟨c,q,h1,-,h3⟩:=put_head x d hx
   have hat:s.data.toList[a]? = some c:=from_head (r:=q++(putAll r++101 :: rest)) (by rw [h,h1]; rfl)
   rw [rdList,if_neg (by rw [hat]; intro e; exact h3 (Option.some.inj e)),value_read s hs x d a m _ hx hr.1 (by omega) h,if_pos rfl]
   dsimp only
   rw [list_read s hs d r f _ _ _ rest (fun y hy=>hd y (List.mem_cons_of_mem _ hy)) hr.2 (by omega) (by simpa using hf) (from_app h)]
   simp
   omega
end
mutual
theorem rightGo_back:∀ (x:V) (deep:Nat) (st:RS),(rightGo x deep st).many≤4000 →
 (rightGo x deep st).many=st.many+x.cnt∧st.deepest≤(rightGo x deep st).deepest∧∀ D,(rightGo x deep st).deepest≤D→(rightGo x deep st).ok=true→st.ok=true∧RightTo (D+1 - deep) x∧deep≤D
 | .mk k n s l,deep,st,h=>by
   rw [rightGo] at h ⊢
   rw [V.cnt]
   by_cases h1:4000<st.many+1
   ·rw [if_pos h1] at h; dsimp only at h; omega
   ·rw [if_neg h1] at h ⊢
    obtain⟨h2,h3,h4⟩:=rightAll_back l (deep+1) ⟨st.many+1,max st.deepest deep,st.ok&&rightOne k n s l⟩ h
    dsimp only at h2 h3 h4
    refine⟨by omega,by omega,fun D hD hok=>?_⟩
    obtain⟨h5,h6⟩:=h4 D hD hok
    rw [Bool.and_eq_true] at h5
    have hdd:deep≤D:=by omega
    refine⟨h5.1,?_,hdd⟩
    rw [show D+1 - deep=(D+1 - (deep+1))+1 by omega]
    simp only [RightTo]
    exact⟨h5.2,h6⟩
theorem rightAll_back:∀ (l:List V) (deep:Nat) (st:RS),(rightAll l deep st).many≤4000 →
 (rightAll l deep st).many=st.many+cntAll l∧st.deepest≤(rightAll l deep st).deepest∧∀ D,(rightAll l deep st).deepest≤D→(rightAll l deep st).ok=true→st.ok=true∧∀ y∈l,RightTo (D+1 - deep) y
 | [],deep,st,h=>by rw [rightAll,cntAll] at *; exact⟨rfl,Nat.le_refl _,fun D _ hok=>⟨hok,fun y hy=>by cases hy⟩⟩
 | x :: r,deep,st,h=>by
   rw [rightAll] at h ⊢
   rw [cntAll]
   obtain⟨h1,h2,h3⟩:=rightAll_back r deep (rightGo x deep st) h
   have hm:=rightAll_many r deep (rightGo x deep st)
   obtain⟨h4,h5,h6⟩:=rightGo_back x deep st (by omega)
   refine⟨by omega,by omega,fun D hD hok=>?_⟩
   obtain⟨h7,h8⟩:=h3 D hD hok
   obtain⟨h9,h10,-⟩:=h6 D (by omega) h7
   refine⟨h9,fun y hy=>?_⟩
   rcases List.mem_cons.1 hy with rfl | hy
   ·exact h10
   ·exact h8 y hy
end
theorem rightL_to {v:V}(h:rightL v=0):RightTo 30 v∧v.cnt≤4000:=by
 unfold rightL at h
 dsimp only at h
 by_cases h1:4000<(rightGo v 1 ⟨0,0,true⟩).many
 ·rw [if_pos h1] at h; simp at h
 ·rw [if_neg h1] at h
  by_cases h2:30<(rightGo v 1 ⟨0,0,true⟩).deepest
  ·rw [if_pos h2] at h; simp at h
  ·rw [if_neg h2] at h
   cases h3:(rightGo v 1 ⟨0,0,true⟩).ok with
   | false=>rw [h3] at h; simp at h
   | true =>
     obtain⟨h4,-,h5⟩:=rightGo_back v 1 ⟨0,0,true⟩ (by omega)
     dsimp only at h4
     exact⟨(h5 30 (by omega) h3).2.1,by omega⟩
theorem put_back {v:V}{s:ByteArray}(hr:v.InR) (h:putGot v=(s,0)):getL s=⟨v,0,0⟩∧RightTo 30 v∧v.cnt≤4000∧s.size≤131072∧s.data.toList=putL v:=by
 unfold putGot at h
 by_cases h1:rightL v≠0
 ·rw [if_pos h1] at h; exact absurd (congrArg Prod.snd h) h1
 ·rw [if_neg h1] at h
  have h1:rightL v=0:=Classical.byContradiction h1
  by_cases h2:131072<(putL v).length
  ·rw [if_pos h2] at h; have:=congrArg Prod.snd h; simp at this
  ·rw [if_neg h2] at h
   obtain rfl:⟨(putL v).toArray⟩=s:=congrArg Prod.fst h
   obtain⟨h3,h4⟩:=rightL_to h1
   have hsz:(⟨(putL v).toArray⟩:ByteArray).size=(putL v).length:=by simp [ByteArray.size]
   have h5:=value_read ⟨(putL v).toArray⟩ (by rw [hsz]; omega) v 30 0 0 [] h3 hr (by omega) (by simp [from_])
   refine⟨?_,h3,h4,by rw [hsz]; omega,rfl⟩
   unfold getL
   rw [if_neg (by rw [hsz]; omega),h5,if_pos rfl]
   dsimp only
   rw [if_neg (by rw [hsz]; omega)]
end Go.Proofs.YtlpgbmaoenncjaaGreatDoor
namespace Go.Proofs.YtlpgbmaoenncjaaGreatDoor
open Go.RowKit
set_option linter.unusedVariables false
structure Making (b4:Nat) (acc:List V) (va:Option Addr) (vc:Nat) (cells:List Value) (w:World):Prop where
 box:Four w b4 70 (.int .i64 3) (.int .i64 0) (.string ⟨#[]⟩) (.slice va acc.length vc)
 own:w.ownsRow (b4+1) 70 4 (.slice va acc.length vc) acc.length cells
 row:RowOf w (InRow (b4+1) (.slice va acc.length vc) w) acc cells
theorem grown_of_below {w w':World}(h:Below w.heap.size w w') (row:Option Nat):w.grownBy w' row:=⟨h.os,h.tape,h.output,h.size,fun k hk _=>h.block k hk⟩
theorem Making.under {b4:Nat}{acc:List V}{va:Option Addr}{vc:Nat}{cells:List Value}{w w':World}(h:Making b4 acc va vc cells w) (hb:Below w.heap.size w w'):Making b4 acc va vc cells w':=by
 have hlt:=lt_of_block h.box
 refine⟨(hb.block _ hlt).trans h.box,h.own.kept (grown_of_below hb none) (by cases hv:(Value.slice va acc.length vc).ownBlock <;> simp),?_⟩
 exact h.row.move (fun b hb2=>⟨hb2.1,Nat.lt_of_lt_of_le hb2.2.1 hb.size,hb2.2.2⟩) (fun b hb2=>hb.block b hb2.2.1)
theorem Making.start (b4:Nat) (w:World) (h:Four w b4 70 (.int .i64 3) (.int .i64 0) (.string ⟨#[]⟩) (.slice none 0 0)):Making b4 [] none 0 [] w:=⟨h,World.ownsRow_nil _ _ _ _,.nil⟩
theorem Making.at {b4:Nat}{acc:List V}{va:Option Addr}{vc:Nat}{cells:List Value}{w:World}(h:Making b4 acc va vc cells w) :
 V.At w (fun b=>b4+1≤b∧b<w.heap.size) (.mk 3 0 ⟨#[]⟩ acc) [.int .i64 3,.int .i64 0,.string ⟨#[]⟩,.slice va acc.length vc]:=by
 obtain⟨a,c,h3,h4,h5,h6⟩:=own_vals h.own h.row
 cases h3
 simp only [V.At]
 exact⟨va,vc,rfl,h4,h5,h6⟩
theorem dec_len (N:Nat) (h:N<10000000000000000000):(Lib.decDigits N).length≤19:=by
 have key:∀ (k N:Nat),N<10 ^ (k+1)→(Lib.decDigits N).length≤k+1:=by
  intro k
  induction k with
  | zero=>intro N h; rw [Lib.decDigits,dif_pos (by simpa using h)]; simp
  | succ k ih =>
    intro N h
    by_cases h1:N<10
    ·rw [Lib.decDigits,dif_pos h1]; simp
    ·rw [Lib.decDigits,dif_neg h1,List.length_append]
     have:=ih (N / 10) (by rw [Nat.pow_succ] at h; omega)
     simp; omega
 exact key 18 N (Nat.lt_of_lt_of_le h (by decide))
theorem itoa_len {n:Int}(h0:-9223372036854775808≤n) (h1:n≤9223372036854775807):(Lib.itoa n).length≤20:=by
 unfold Lib.itoa
 split
 ·have:=dec_len n.natAbs (by omega); simp; omega
 ·have:=dec_len n.toNat (by omega); omega
end Go.Proofs.YtlpgbmaoenncjaaGreatDoor
namespace Go.Proofs.YtlpgbmaoenncjaaGreatDoor
open Go.RowKit
set_option linter.unusedVariables false
def V.k:V→Int | .mk k _ _ _=>k
def V.n:V→Int | .mk _ n _ _=>n
def V.s:V→ByteArray | .mk _ _ s _=>s
def V.l:V→List V | .mk _ _ _ l=>l
def fld (v:V) (i:Nat):V:=v.l.getD i zeroV
def numV (n:Int):V:=.mk 1 n ⟨#[]⟩ []
def textV (s:ByteArray):V:=.mk 2 0 s []
def listV (l:List V):V:=.mk 3 0 ⟨#[]⟩ l
def recV (r:Rc):V:=listV [numV r.term,numV r.kind,textV r.data]
def smallN (v:V):Prop:=v.k=1∧0≤v.n∧v.n≤1073741824
instance (v:V):Decidable (smallN v):=by unfold smallN; exact inferInstance
def recRead (x:V):Rc:=⟨(fld x 0).n,(fld x 1).n,(fld x 2).s⟩
def recIs (x:V):Prop:=x.k=3∧x.l.length=3∧smallN (fld x 0)∧smallN (fld x 1)∧(fld x 2).k=2
instance (v:V):Decidable (recIs v):=by unfold recIs; exact inferInstance
def headV (v:V):Prop:=v.k=3∧v.l.length=11∧(fld v 8).k=2∧(fld v 9).k=3∧(fld v 10).k=3
instance (v:V):Decidable (headV v):=by unfold headV; exact inferInstance
def msRead (v:V):Ms:=⟨(fld v 0).n,(fld v 1).n,(fld v 2).n,(fld v 3).n,decide ((fld v 4).n=1),(fld v 5).n,(fld v 6).n,(fld v 10).l.map recRead,(fld v 7).n,(fld v 8).s,(fld v 9).l.map V.n⟩
def firstV (v:V):Prop:=smallN (fld v 0)∧smallN (fld v 1)∧smallN (fld v 2)∧smallN (fld v 3)∧smallN (fld v 4)∧smallN (fld v 5)∧smallN (fld v 6)∧smallN (fld v 7)
instance (v:V):Decidable (firstV v):=by unfold firstV; exact inferInstance
def msOk (v:V):Prop:=headV v∧firstV v∧(∀ x∈(fld v 9).l,smallN x)∧(∀ x∈(fld v 10).l,recIs x)∧(fld v 4).n≤1∧mayM (msRead v)=true
instance (v:V):Decidable (msOk v):=by unfold msOk; exact inferInstance
def cl (n:Int):Int:=max (min n 1073741825) (-1)
def recCut (x:V):Rc:=⟨cl (fld x 0).n,cl (fld x 1).n,(fld x 2).s⟩
def msCut (v:V):Ms:=⟨cl (fld v 0).n,cl (fld v 1).n,cl (fld v 2).n,cl (fld v 3).n,decide (cl (fld v 4).n=1),cl (fld v 5).n,cl (fld v 6).n,(fld v 10).l.map recCut,cl (fld v 7).n,(fld v 8).s,(fld v 9).l.map (fun x=>cl x.n)⟩
def recNum (x:V):Prop:=x.k=3∧x.l.length=3∧(fld x 2).k=2
instance (v:V):Decidable (recNum v):=by unfold recNum; exact inferInstance
def goodV8 (v:V):Bool:=decide ((fld v 0).k=1)&&decide ((fld v 1).k=1)&&decide ((fld v 2).k=1)&&decide ((fld v 3).k=1)&&decide ((fld v 5).k=1)&&decide ((fld v 6).k=1)&&decide ((fld v 7).k=1)&&decide ((fld v 4).k=1)
def isNum (x:V):Bool:=decide (x.k=1)
def recTwo (x:V):Bool:=decide ((fld x 0).k=1)&&decide ((fld x 1).k=1)
def msNum (v:V):Prop:=headV v∧(∀ x∈(fld v 10).l,recNum x)∧(goodV8 v&&(fld v 9).l.all isNum&&(fld v 10).l.all recTwo)=true∧0≤cl (fld v 4).n∧cl (fld v 4).n≤1∧mayM (msCut v)=true
instance (v:V):Decidable (msNum v):=by unfold msNum; exact inferInstance
theorem cl_in {n:Int}(h0:0≤cl n) (h1:cl n≤1073741824):0≤n∧n≤1073741824∧cl n=n:=by unfold cl at *; omega
theorem cl_of {n:Int}(h0:0≤n) (h1:n≤1073741824):cl n=n:=by unfold cl; omega
theorem map_same {α β:Type}{f g:α→β}{l:List α}(h:∀ x∈l,f x=g x):l.map f=l.map g:=List.map_congr_left h
theorem fld_mem {v:V}{i:Nat}(h:i<v.l.length):fld v i∈v.l:=by
 unfold fld
 rw [List.getD_eq_getElem?_getD,List.getElem?_eq_getElem h]
 exact List.getElem_mem h
theorem numV_inR {n:Int}(h0:-9223372036854775808≤n) (h1:n≤9223372036854775807):(numV n).InR:=by unfold numV; simp only [V.InR,allInR]; exact⟨⟨h0,h1⟩,trivial⟩
theorem textV_inR (s:ByteArray):(textV s).InR:=by unfold textV; simp only [V.InR,allInR]; exact⟨⟨by omega,by omega⟩,trivial⟩
theorem allInR_of:∀ {l:List V},(∀ x∈l,x.InR)→allInR l
 | [],_=>by simp only [allInR]
 | x :: r,h=>by simp only [allInR]; exact⟨h x List.mem_cons_self,allInR_of (fun y hy=>h y (List.mem_cons_of_mem _ hy))⟩
theorem listV_inR {l:List V}(h:∀ x∈l,x.InR):(listV l).InR:=by unfold listV; simp only [V.InR]; exact⟨⟨by omega,by omega⟩,allInR_of h⟩
def in63 (n:Int):Prop:=-9223372036854775808≤n∧n≤9223372036854775807
theorem recV_inR {r:Rc}(h:in63 r.term∧in63 r.kind):(recV r).InR:=by
 unfold recV
 refine listV_inR fun x hx=>?_
 simp only [List.mem_cons,List.mem_nil_iff,or_false] at hx
 rcases hx with rfl | rfl | rfl
 ·exact numV_inR h.1.1 h.1.2
 ·exact numV_inR h.2.1 h.2.2
 ·exact textV_inR _
end Go.Proofs.YtlpgbmaoenncjaaGreatDoor
namespace Go.Proofs.YtlpgbmaoenncjaaGreatDoor
open Go.RowKit
set_option linter.unusedVariables false
structure Made (b4:Nat) (acc:List V) (x:V) (va:Option Addr) (vc:Nat) (a3:Option Addr) (c3:Nat) (cells:List Value) (w:World):Prop where
 box:Four w b4 70 (.int .i64 3) (.int .i64 0) (.string ⟨#[]⟩) (.slice va acc.length vc)
 own:w.ownsRow (b4+1) 70 4 (.slice a3 (acc.length+1) c3) (acc.length+1) cells
 row:RowOf w (InRow (b4+1) (.slice a3 (acc.length+1) c3) w) (acc++[x]) cells
theorem Made.under {b4:Nat}{acc:List V}{x:V}{va a3:Option Addr}{vc c3:Nat}{cells:List Value}{w w':World}(h:Made b4 acc x va vc a3 c3 cells w) (hb:Below w.heap.size w w'):Made b4 acc x va vc a3 c3 cells w':=by
 have hlt:=lt_of_block h.box
 refine⟨(hb.block _ hlt).trans h.box,h.own.kept (grown_of_below hb none) (by cases hv:(Value.slice a3 (acc.length+1) c3).ownBlock <;> simp),?_⟩
 exact h.row.move (fun b hb2=>⟨hb2.1,Nat.lt_of_lt_of_le hb2.2.1 hb.size,hb2.2.2⟩) (fun b hb2=>hb.block b hb2.2.1)
theorem Made.store {b4:Nat}{acc:List V}{x:V}{va a3:Option Addr}{vc c3:Nat}{cells:List Value}{w:World}(h:Made b4 acc x va vc a3 c3 cells w) :
 Making b4 (acc++[x]) a3 c3 cells (w.setCell ⟨b4,3,none⟩ (.slice a3 (acc.length+1) c3)):=by
 have hlen:(acc++[x]).length=acc.length+1:=by simp
 have hg4:=grown_setCell w b4 3 (.slice a3 (acc.length+1) c3)
 obtain⟨h5,h6⟩:=row_kept h.own h.row hg4 (by omega)
 refine⟨?_,?_,?_⟩
 ·rw [hlen]; exact h.box.set3 _
 ·rw [hlen]; exact h5
 ·rw [hlen]; exact h6
end Go.Proofs.YtlpgbmaoenncjaaGreatDoor
namespace Go.Proofs.YtlpgbmaoenncjaaGreatDoor
open Go.RowKit
set_option linter.unusedVariables false
structure MakingB (base b4:Nat) (acc:List V) (va:Option Addr) (vc:Nat) (cells:List Value) (w:World):Prop where
 box:Four w b4 70 (.int .i64 3) (.int .i64 0) (.string ⟨#[]⟩) (.slice va acc.length vc)
 lt:b4<base
 le:base≤w.heap.size
 own:w.ownsRow base 70 4 (.slice va acc.length vc) acc.length cells
 row:RowOf w (InRow base (.slice va acc.length vc) w) acc cells
theorem MakingB.start (base b4:Nat) (w:World) (hlt:b4<base) (hle:base≤w.heap.size) (h:Four w b4 70 (.int .i64 3) (.int .i64 0) (.string ⟨#[]⟩) (.slice none 0 0)):MakingB base b4 [] none 0 [] w:=⟨h,hlt,hle,World.ownsRow_nil _ _ _ _,.nil⟩
theorem MakingB.under {base b4:Nat}{acc:List V}{va:Option Addr}{vc:Nat}{cells:List Value}{w w':World}(h:MakingB base b4 acc va vc cells w) (hb:Below w.heap.size w w'):MakingB base b4 acc va vc cells w':=by
 refine⟨(hb.block _ (Nat.lt_of_lt_of_le h.lt h.le)).trans h.box,h.lt,Nat.le_trans h.le hb.size,h.own.kept (grown_of_below hb none) (by cases hv:(Value.slice va acc.length vc).ownBlock <;> simp),?_⟩
 exact h.row.move (fun b hb2=>⟨hb2.1,Nat.lt_of_lt_of_le hb2.2.1 hb.size,hb2.2.2⟩) (fun b hb2=>hb.block b hb2.2.1)
theorem MakingB.other {base b4 r:Nat}{acc:List V}{va:Option Addr}{vc:Nat}{cells:List Value}{w w':World}(h:MakingB base b4 acc va vc cells w) (hg:w.grownBy w' (some r)) (hr:r<base) (hne:r≠b4):MakingB base b4 acc va vc cells w':=by
 obtain⟨h5,h6⟩:=row_kept h.own h.row hg hr
 exact⟨(hg.block _ (Nat.lt_of_lt_of_le h.lt h.le) (fun e=>hne (Option.some.inj e).symm)).trans h.box,h.lt,Nat.le_trans h.le hg.size,h5,h6⟩
theorem MakingB.apart {base b4:Nat}{acc:List V}{va:Option Addr}{vc:Nat}{cells:List Value}{w w':World}(h:MakingB base b4 acc va vc cells w) (hos:w'.os=w.os) (htp:w'.tape=w.tape) (hou:w'.output=w.output) (hsz:w.heap.size≤w'.heap.size) (hk:∀ b,b<w.heap.size→w'.heap[b]? = w.heap[b]?):MakingB base b4 acc va vc cells w' :=
 h.under ⟨hos,htp,hou,hsz,hk⟩
theorem MakingB.at {base b4:Nat}{acc:List V}{va:Option Addr}{vc:Nat}{cells:List Value}{w:World}(h:MakingB base b4 acc va vc cells w) :
 V.At w (fun b=>base≤b∧b<w.heap.size) (listV acc) [.int .i64 3,.int .i64 0,.string ⟨#[]⟩,.slice va acc.length vc]:=by
 obtain⟨a,c,h3,h4,h5,h6⟩:=own_vals h.own h.row
 cases h3
 simp only [listV,V.At]
 exact⟨va,vc,rfl,h4,h5,h6⟩
structure MadeB (base b4:Nat) (acc:List V) (xs:List V) (va:Option Addr) (vc:Nat) (a3:Option Addr) (c3:Nat) (cells:List Value) (w:World):Prop where
 box:Four w b4 70 (.int .i64 3) (.int .i64 0) (.string ⟨#[]⟩) (.slice va acc.length vc)
 lt:b4<base
 le:base≤w.heap.size
 own:w.ownsRow base 70 4 (.slice a3 (acc.length+xs.length) c3) (acc.length+xs.length) cells
 row:RowOf w (InRow base (.slice a3 (acc.length+xs.length) c3) w) (acc++xs) cells
theorem MadeB.under {base b4:Nat}{acc xs:List V}{va a3:Option Addr}{vc c3:Nat}{cells:List Value}{w w':World}(h:MadeB base b4 acc xs va vc a3 c3 cells w) (hb:Below w.heap.size w w'):MadeB base b4 acc xs va vc a3 c3 cells w':=by
 refine⟨(hb.block _ (Nat.lt_of_lt_of_le h.lt h.le)).trans h.box,h.lt,Nat.le_trans h.le hb.size,h.own.kept (grown_of_below hb none) (by cases hv:(Value.slice a3 (acc.length+xs.length) c3).ownBlock <;> simp),?_⟩
 exact h.row.move (fun b hb2=>⟨hb2.1,Nat.lt_of_lt_of_le hb2.2.1 hb.size,hb2.2.2⟩) (fun b hb2=>hb.block b hb2.2.1)
theorem MadeB.store {base b4:Nat}{acc xs:List V}{va a3:Option Addr}{vc c3:Nat}{cells:List Value}{w:World}(h:MadeB base b4 acc xs va vc a3 c3 cells w) :
 MakingB base b4 (acc++xs) a3 c3 cells (w.setCell ⟨b4,3,none⟩ (.slice a3 (acc.length+xs.length) c3)):=by
 have hlen:(acc++xs).length=acc.length+xs.length:=by simp
 have hg4:=grown_setCell w b4 3 (.slice a3 (acc.length+xs.length) c3)
 obtain⟨h5,h6⟩:=row_kept h.own h.row hg4 h.lt
 refine⟨?_,h.lt,Nat.le_trans h.le hg4.size,?_,?_⟩
 ·rw [hlen]; exact h.box.set3 _
 ·rw [hlen]; exact h5
 ·rw [hlen]; exact h6
theorem RowOf.joined {w:World}{S:Nat→Prop}{l xs:List V}{cells news:List Value}(h:RowOf w S l cells) (hx:RowOf w S xs news):RowOf w S (l++xs) (cells++news):=by
 induction hx with
 | nil=>simpa using h
 | snoc _ hx ih=>rw [← List.append_assoc,← List.append_assoc]; exact .snoc ih hx
theorem makingB_append {base b4:Nat}{acc:List V}{va:Option Addr}{vc:Nat}{cells:List Value}{w:World}(h:MakingB base b4 acc va vc cells w) (xs:List V) (news:List Value) (k g hi:Nat) (T t ty:TypeId)
 (ht:Tryz.prog.underlying t=some (.slice 70)) (hg:w.heap[g]? = some (.cells news.toArray T (0,0))) (hk:xs.length=k) (hx:RowOf w (fun b=>hi≤b∧b<w.heap.size) xs news)
 (hb:base≤hi) (hvl:∀ k,(Value.slice va acc.length vc).ownBlock=some k→k<hi) (hk0:0<k) (hk1:k≤1000) (hn:acc.length≤1000000) :
 ∃ a3 c3 cells' w',(Builtin.append_ #[t,t] ty #[.slice va acc.length vc,.slice (some ⟨g,0,none⟩) k k]).run Tryz.prog w = .ok (.slice a3 (acc.length+xs.length) c3) w'∧w.grownBy w' (Value.slice va acc.length vc).ownBlock∧MadeB base b4 acc xs va vc a3 c3 cells' w':=by
 obtain⟨i0,hi0,hz0,hz1,hz2⟩:=infoV
 subst hk
 have hnews:∀ j y,news[j]? = some y→w.cell? ((⟨g,0,none⟩:Addr).add j)=some y:=by
  intro j y hj
  have:=(Lib.cell_of_heap hg j)
  rw [show (⟨g,0,none⟩:Addr).add j=⟨g,j,none⟩ by unfold Addr.add; split <;> simp_all]
  rw [this]
  simpa using hj
 have h1:=hx.one
 have hl4:news.length=xs.length*4:=hx.length
 have hlt:=lt_of_block h.box
 have hle:=h.le
 have hlb:=h.lt
 obtain⟨v',w',hr,h2,h3,h4⟩:=run_append_own (P:=Tryz.prog) w base t ty 70 i0 (.agg #[.int .i64 0,.int .i64 0,.string ⟨#[]⟩,.slice none 0 0]) 4 56 ht hi0 hz0 hz1 hz2 rfl (by decide) _ acc.length cells h.own ⟨g,0,none⟩ xs.length xs.length news hl4 hnews h1 (by unfold maxLen; omega) (by omega) (by omega)
 have hob:=append_block (P:=Tryz.prog) w base t ty 70 i0 (.agg #[.int .i64 0,.int .i64 0,.string ⟨#[]⟩,.slice none 0 0]) 4 56 ht hi0 hz0 hz1 hz2 _ acc.length cells h.own ⟨g,0,none⟩ xs.length xs.length news hl4 hnews h1 (by omega) (by unfold maxLen; omega) (by omega) hr
 have hrow:RowOf w' (InRow base v' w') (acc++xs) (cells++news):=by
  have hne:∀ b,b<w.heap.size→some b≠(Value.slice va acc.length vc).ownBlock→some b≠v'.ownBlock:=by
   intro b hb1 hb2 e
   rcases hob with ho | ho
   ·exact hb2 (e.trans ho)
   ·rw [ho] at e; cases e; omega
  have hv:∀ b,hi≤b→some b≠(Value.slice va acc.length vc).ownBlock:=fun b hb e=>by have:=hvl b e.symm; omega
  refine RowOf.joined (h.row.move (fun b hb=>⟨hb.1,Nat.lt_of_lt_of_le hb.2.1 h3.size,hne b hb.2.1 hb.2.2⟩) fun b hb=>h3.block b hb.2.1 hb.2.2) ?_
  exact hx.move (fun b hb2=>⟨by omega,Nat.lt_of_lt_of_le hb2.2 h3.size,hne b hb2.2 (hv b hb2.1)⟩) (fun b hb2=>h3.block b hb2.2 (hv b hb2.1))
 have hlen:(acc++xs).length=acc.length+xs.length:=by simp
 rw [← hlen] at h2
 obtain⟨a3,c3,rfl,-⟩:=own_vals h2 hrow
 rw [hlen] at h2 hrow hr
 refine⟨a3,c3,_,w',hr,h3,h.box.kept h3 (fun e=>?_),h.lt,Nat.le_trans h.le h3.size,h2,hrow⟩
 have:=(h.own.lt _ e.symm).1
 omega
structure KeptB (base bx:Nat) (w w':World):Prop where
 os:w'.os=w.os
 tape:w'.tape=w.tape
 output:w'.output=w.output
 size:w.heap.size≤w'.heap.size
 block:∀ b,b<base→b≠bx→w'.heap[b]? = w.heap[b]?
theorem KeptB.refl (base bx:Nat) (w:World):KeptB base bx w w:=⟨rfl,rfl,rfl,Nat.le_refl _,fun _ _ _=>rfl⟩
theorem KeptB.under {base bx:Nat}{w w1 w':World}(h:KeptB base bx w w1) (hb:Below w1.heap.size w1 w') (hl:base≤w1.heap.size):KeptB base bx w w' :=
 ⟨hb.os.trans h.os,hb.tape.trans h.tape,hb.output.trans h.output,Nat.le_trans h.size hb.size,fun b h1 h2=>(hb.block b (Nat.lt_of_lt_of_le h1 hl)).trans (h.block b h1 h2)⟩
theorem KeptB.grown {base bx:Nat}{row:Option Nat}{w w1 w':World}(h:KeptB base bx w w1) (hg:w1.grownBy w' row) (hl:base≤w1.heap.size) (hr:∀ k,row=some k→base≤k∨k=bx):KeptB base bx w w' :=
 ⟨hg.os.trans h.os,hg.tape.trans h.tape,hg.output.trans h.output,Nat.le_trans h.size hg.size,fun b h1 h2=>(hg.block b (Nat.lt_of_lt_of_le h1 hl) (fun e=>by rcases hr b e.symm with h3 | h3 <;> omega)).trans (h.block b h1 h2)⟩
theorem KeptB.below {base bx B:Nat}{w w':World}(h:KeptB base bx w w') (h1:B≤bx) (h2:B≤base):Below B w w' :=
 ⟨h.os,h.tape,h.output,h.size,fun k hk=>h.block k (by omega) (by omega)⟩
theorem KeptB.grownBy {bx:Nat}{w w':World}(h:KeptB w.heap.size bx w w'):w.grownBy w' (some bx):=⟨h.os,h.tape,h.output,h.size,fun k hk hne=>h.block k hk (fun e=>hne (by rw [e]))⟩
theorem MakingB.kept {base b4 bx:Nat}{acc:List V}{va:Option Addr}{vc:Nat}{cells:List Value}{w w':World}(h:MakingB base b4 acc va vc cells w) (hk:KeptB w.heap.size bx w w') (hb:bx<base) (hne:bx≠b4):MakingB base b4 acc va vc cells w':=h.other hk.grownBy hb hne
end Go.Proofs.YtlpgbmaoenncjaaGreatDoor
namespace Go.Proofs.YtlpgbmaoenncjaaGreatDoor
open Go.RowKit
set_option linter.unusedVariables false
theorem numV_len {n:Int}(h0:-9223372036854775808≤n) (h1:n≤9223372036854775807):(putL (numV n)).length≤22:=by
 have:=itoa_len h0 h1
 unfold numV
 rw [putL_one]
 simp
 omega
theorem textV_len {s:ByteArray}(h:s.size≤9000000000000000000):(putL (textV s)).length≤s.size+21:=by
 have:=itoa_len (n:=(s.size:Int)) (by omega) (by omega)
 unfold textV
 rw [putL_two]
 simp
 omega
theorem listV_len (l:List V):(putL (listV l)).length=(putAll l).length+2:=by
 unfold listV
 rw [putL_three]
 simp
theorem putAll_bound {l:List V}{k:Nat}(h:∀ x∈l,(putL x).length≤k):(putAll l).length≤l.length*k:=by
 induction l with
 | nil=>simp [putAll]
 | cons x r ih =>
   have h1:=h x List.mem_cons_self
   have h2:=ih (fun y hy=>h y (List.mem_cons_of_mem _ hy))
   rw [putAll,List.length_append,List.length_cons,Nat.add_mul,Nat.one_mul]
   omega
theorem recV_len {r:Rc}(h:in63 r.term∧in63 r.kind) (hs:r.data.size≤8192):(putL (recV r)).length≤8259:=by
 have h1:=numV_len h.1.1 h.1.2
 have h2:=numV_len h.2.1 h.2.2
 have h3:=textV_len (s:=r.data) (by omega)
 unfold recV
 rw [listV_len]
 simp only [putAll,List.length_append,List.length_nil]
 omega
theorem cntAll_bound {l:List V}{k:Nat}(h:∀ x∈l,x.cnt≤k):cntAll l≤l.length*k:=by
 induction l with
 | nil=>simp [cntAll]
 | cons x r ih =>
   have h1:=h x List.mem_cons_self
   have h2:=ih (fun y hy=>h y (List.mem_cons_of_mem _ hy))
   rw [cntAll,List.length_cons,Nat.add_mul,Nat.one_mul]
   omega
theorem numV_cnt (n:Int):(numV n).cnt=1:=by simp [numV,V.cnt,cntAll]
theorem textV_cnt (s:ByteArray):(textV s).cnt=1:=by simp [textV,V.cnt,cntAll]
theorem listV_cnt (l:List V):(listV l).cnt=1+cntAll l:=by simp [listV,V.cnt]
theorem recV_cnt (r:Rc):(recV r).cnt=4:=by simp [recV,listV_cnt,cntAll,numV_cnt,textV_cnt]
theorem votersV_cnt (l:List Int):(listV (l.map numV)).cnt≤1+l.length:=by
 rw [listV_cnt]
 have:=cntAll_bound (l:=l.map numV) (k:=1) (fun x hx=>by obtain⟨y,-,rfl⟩:=List.mem_map.1 hx; rw [numV_cnt]; exact Nat.le_refl _)
 simp at this
 omega
theorem recsV_cnt (l:List Rc):(listV (l.map recV)).cnt≤1+l.length*4:=by
 rw [listV_cnt]
 have:=cntAll_bound (l:=l.map recV) (k:=4) (fun x hx=>by obtain⟨y,-,rfl⟩:=List.mem_map.1 hx; rw [recV_cnt]; exact Nat.le_refl _)
 simp at this
 omega
theorem votersV_len {l:List Int}(h:∀ x∈l,in63 x):(putL (listV (l.map numV))).length≤2+l.length*22:=by
 rw [listV_len]
 have:=putAll_bound (l:=l.map numV) (k:=22) (fun x hx=>by obtain⟨y,hy,rfl⟩:=List.mem_map.1 hx; exact numV_len (h y hy).1 (h y hy).2)
 simp at this
 omega
theorem recsV_len {l:List Rc}(h:∀ r∈l,(in63 r.term∧in63 r.kind)∧r.data.size≤8192):(putL (listV (l.map recV))).length≤2+l.length*8259:=by
 rw [listV_len]
 have:=putAll_bound (l:=l.map recV) (k:=8259) (fun x hx=>by obtain⟨y,hy,rfl⟩:=List.mem_map.1 hx; exact recV_len (h y hy).1 (h y hy).2)
 simp at this
 omega
end Go.Proofs.YtlpgbmaoenncjaaGreatDoor

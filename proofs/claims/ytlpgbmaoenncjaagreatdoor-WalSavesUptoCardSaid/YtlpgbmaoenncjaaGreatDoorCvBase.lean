/-
  code.reader in memory, and the walks of its fail and must.
  Values (api.Val) in memory: four cells, the last one the slice of the values within; without a condition.
  The walk of code.reader's digits: the number that stands there, or what is wrong.
  The walk of code.reader's number. (Written by wip/mknum.py.)
  What code.reader's value reads, by definition; without a condition.
-/
import Derived.Test.YtlpgbmaoenncjaaGreatDoorGen
import Derived.Deep.LoopGhost
namespace Go.Proofs.YtlpgbmaoenncjaaGreatDoor
open Go.RowKit
set_option linter.unusedVariables false
structure RdAt (w:World) (r:Nat) (s:ByteArray) (a m b:Int):Prop where
 lt:r<w.heap.size
 c0:w.cell? ⟨r,0,none⟩=some (.string s)
 c1:w.cell? ⟨r,1,none⟩=some (.int .i64 a)
 c2:w.cell? ⟨r,2,none⟩=some (.int .i64 m)
 c3:w.cell? ⟨r,3,none⟩=some (.int .i64 b)
 free:∀ j,j<4→w.frozen? ⟨r,j,none⟩=false
theorem RdAt.drewN {w:World}{r:Nat}{s:ByteArray}{a m b:Int}(h:RdAt w r s a m b) (n:Nat):RdAt (w.drewN n) r s a m b:=⟨h.lt,h.c0,h.c1,h.c2,h.c3,h.free⟩
theorem RdAt.kept {w w':World}{r:Nat}{s:ByteArray}{a m b:Int}(h:RdAt w r s a m b) {row:Option Nat}(hg:w.grownBy w' row) (hr:some r≠row):RdAt w' r s a m b:=by
 have hb:=hg.block r h.lt hr
 exact⟨Nat.lt_of_lt_of_le h.lt hg.size,hg.cell h.c0 hr,hg.cell h.c1 hr,hg.cell h.c2 hr,hg.cell h.c3 hr,fun j hj=>by rw [World.frozen?_of_block (a:=⟨r,j,none⟩) hb]; exact h.free j hj⟩
theorem RdAt.alloc {w:World}{r:Nat}{s:ByteArray}{a m b:Int}(h:RdAt w r s a m b) (o:Obj):RdAt (w.alloc o) r s a m b:=h.kept (World.grownBy_alloc w o none) (by simp)
def mustL (s:ByteArray) (a:Nat) (c:UInt8):Bool × Nat × Int :=
 if h:a<s.size then (if s[a]=c then (true,a+1,0) else (false,a,11)) else (false,a,10)
end Go.Proofs.YtlpgbmaoenncjaaGreatDoor
namespace Go.Proofs.YtlpgbmaoenncjaaGreatDoor
open Go.RowKit
set_option linter.unusedVariables false
inductive V where
 | mk (kind n:Int) (s:ByteArray) (l:List V)
mutual
def V.At (w:World) (S:Nat→Prop):V→List Value→Prop
 | .mk k n s l,cs=>∃ (a:Option Addr) (c:Nat),cs=[.int .i64 k,.int .i64 n,.string s,.slice a l.length c]∧l.length≤c∧(a=none→c=0)∧VAll w S a 0 l
def VAll (w:World) (S:Nat→Prop) (a:Option Addr):Nat→List V→Prop
 | _,[]=>True
 | i,x :: r=>(∃ (b o:Nat) (cs:List Value),a=some ⟨b,o,none⟩∧S b∧V.At w S x cs∧∀ j u,cs[j]? = some u→w.cell? ⟨b,o+i*4+j,none⟩=some u)∧VAll w S a (i+1) r
end
mutual
theorem V.At.move {w w':World}{S T:Nat→Prop}(hT:∀ b,S b→T b) (hk:∀ b,S b→w'.heap[b]? = w.heap[b]?):∀ (x:V) (cs:List Value),V.At w S x cs→V.At w' T x cs
 | .mk k n s l,cs,h=>by
   simp only [V.At] at h ⊢
   obtain⟨a,c,h1,h2,h3,h4⟩:=h
   exact⟨a,c,h1,h2,h3,VAll.move hT hk a 0 l h4⟩
theorem VAll.move {w w':World}{S T:Nat→Prop}(hT:∀ b,S b→T b) (hk:∀ b,S b→w'.heap[b]? = w.heap[b]?) (a:Option Addr):∀ (i:Nat) (l:List V),VAll w S a i l→VAll w' T a i l
 | _,[],_=>by simp only [VAll]
 | i,x :: r,h=>by
   simp only [VAll] at h ⊢
   obtain⟨⟨b,o,cs,h1,h2,h3,h4⟩,h5⟩:=h
   exact⟨⟨b,o,cs,h1,hT b h2,V.At.move hT hk x cs h3,fun j u hj=>(World.cell?_of_block (hk b h2)).trans (h4 j u hj)⟩,VAll.move hT hk a (i+1) r h5⟩
end
theorem V.At.four {w:World}{S:Nat→Prop}:∀ {x:V}{cs:List Value},V.At w S x cs→cs.length=4∧∀ u∈cs,u.oneCell'=true
 | .mk k n s l,cs,h=>by
   simp only [V.At] at h
   obtain⟨a,c,rfl,_⟩:=h
   refine⟨rfl,fun u hu=>?_⟩
   simp at hu
   rcases hu with rfl | rfl | rfl | rfl <;> rfl
inductive RowOf (w:World) (S:Nat→Prop):List V→List Value→Prop
 | nil:RowOf w S [] []
 | snoc {l:List V}{cells:List Value}{x:V}{cs:List Value}:RowOf w S l cells→V.At w S x cs→RowOf w S (l++[x]) (cells++cs)
theorem RowOf.length {w:World}{S:Nat→Prop}{l:List V}{cells:List Value}(h:RowOf w S l cells):cells.length=l.length*4:=by
 induction h with
 | nil=>rfl
 | snoc h1 h2 ih=>rw [List.length_append,List.length_append,ih,h2.four.1]; simp; omega
theorem RowOf.one {w:World}{S:Nat→Prop}{l:List V}{cells:List Value}(h:RowOf w S l cells):∀ u∈cells,u.oneCell'=true:=by
 induction h with
 | nil=>intro u hu; cases hu
 | snoc h1 h2 ih =>
   intro u hu
   rcases List.mem_append.1 hu with h | h
   ·exact ih u h
   ·exact h2.four.2 u h
theorem RowOf.move {w w':World}{S T:Nat→Prop}(hT:∀ b,S b→T b) (hk:∀ b,S b→w'.heap[b]? = w.heap[b]?) {l:List V}{cells:List Value}(h:RowOf w S l cells):RowOf w' T l cells:=by
 induction h with
 | nil=>exact .nil
 | snoc h1 h2 ih=>exact .snoc ih (V.At.move hT hk _ _ h2)
theorem VAll.snoc {w:World}{S:Nat→Prop}(a:Option Addr) (x:V):∀ (i:Nat) (l:List V),VAll w S a i l →
 (∃ (b o:Nat) (cs:List Value),a=some ⟨b,o,none⟩∧S b∧V.At w S x cs∧∀ j u,cs[j]? = some u→w.cell? ⟨b,o+(i+l.length)*4+j,none⟩=some u)→VAll w S a i (l++[x])
 | i,[],h,hx=>by
   simp only [List.nil_append,VAll]
   simp only [List.length_nil,Nat.add_zero] at hx
   exact⟨hx,trivial⟩
 | i,y :: r,h,hx=>by
   simp only [List.cons_append,VAll] at h ⊢
   refine⟨h.1,VAll.snoc a x (i+1) r h.2 ?_⟩
   have e:i+(y :: r).length=i+1+r.length:=by simp; omega
   rw [e] at hx
   exact hx
theorem RowOf.all {w:World}{S:Nat→Prop}{b:Nat}(hb:S b) {l:List V}{cells:List Value}(h:RowOf w S l cells) (hc:∀ j u,cells[j]? = some u→w.cell? ⟨b,j,none⟩=some u):VAll w S (some ⟨b,0,none⟩) 0 l:=by
 induction h with
 | nil=>simp only [VAll]
 | snoc h1 h2 ih =>
   rename_i l cells x cs
   refine VAll.snoc _ x 0 l (ih fun j u hj=>hc j u (by rw [List.getElem?_append_left (List.getElem?_eq_some_iff.1 hj).1]; exact hj)) ⟨b,0,cs,rfl,hb,h2,fun j u hj=>?_⟩
   have hl:=h1.length
   rw [show 0+(0+l.length)*4+j=cells.length+j by omega]
   exact hc _ u (by rw [List.getElem?_append_right (Nat.le_add_right _ _),Nat.add_sub_cancel_left]; exact hj)
end Go.Proofs.YtlpgbmaoenncjaaGreatDoor
namespace Go.Proofs.YtlpgbmaoenncjaaGreatDoor
open Go.RowKit
set_option linter.unusedVariables false
def digitsL (s:ByteArray) (most from_:Nat):Nat→Nat→Nat→Nat × Bool × Nat × Int
 | 0,_,a=>(0,false,a,10)
 | f+1,n,a=>if h:a<s.size then
    (if s[a].toNat<48∨57<s[a].toNat then (if a=from_ then (0,false,a,11) else (n,true,a,0))
     else if (from_<a∧n=0)∨(most - (s[a].toNat - 48)) / 10<n then (0,false,a,11)
     else digitsL s most from_ f (10*n+(s[a].toNat - 48)) (a+1))
   else (0,false,a,10)
end Go.Proofs.YtlpgbmaoenncjaaGreatDoor
namespace Go.Proofs.YtlpgbmaoenncjaaGreatDoor
open Go.RowKit
set_option linter.unusedVariables false
def numTail (s:ByteArray) (most:Nat) (minus:Bool) (a:Nat):Int × Bool × Nat × Int :=
 if (digitsL s most a (s.size+1 - a) 0 a).2.1=true then
  (if (mustL s (digitsL s most a (s.size+1 - a) 0 a).2.2.1 101).1=true then ((if minus=true then -((digitsL s most a (s.size+1 - a) 0 a).1:Int) else ((digitsL s most a (s.size+1 - a) 0 a).1:Int)),true,(mustL s (digitsL s most a (s.size+1 - a) 0 a).2.2.1 101).2.1,0)
   else (0,false,(mustL s (digitsL s most a (s.size+1 - a) 0 a).2.2.1 101).2.1,(mustL s (digitsL s most a (s.size+1 - a) 0 a).2.2.1 101).2.2))
 else (0,false,(digitsL s most a (s.size+1 - a) 0 a).2.2.1,(digitsL s most a (s.size+1 - a) 0 a).2.2.2)
def numberL (s:ByteArray) (a:Nat):Int × Bool × Nat × Int :=
 if s.data.toList[a]? = some 45 then (if s.data.toList[a+1]? = some 48 then (0,false,a+1,11) else numTail s 9223372036854775808 true (a+1))
 else numTail s 9223372036854775807 false a
theorem at_lt {s:ByteArray}{a:Nat}(h:a<s.size):s.data.toList[a]? = some s[a]:=by
 rw [List.getElem?_eq_getElem (by simpa using h)]; rfl
end Go.Proofs.YtlpgbmaoenncjaaGreatDoor
namespace Go.Proofs.YtlpgbmaoenncjaaGreatDoor
open Go.RowKit
set_option linter.unusedVariables false
def zeroV:V:=.mk 0 0 ⟨#[]⟩ []
structure Rd where
 v:V
 ok:Bool
 at_:Nat
 many:Nat
 bad:Int
def Rd.no (at_ many:Nat) (bad:Int):Rd:=⟨zeroV,false,at_,many,bad⟩
def rdList (rd:Nat→Nat→Rd) (s:ByteArray):Nat→Nat→Nat→List V→Rd
 | 0,a,m,_=>Rd.no a m 10
 | f+1,a,m,acc=>if s.data.toList[a]? = some 101 then ⟨.mk 3 0 ⟨#[]⟩ acc,true,a+1,m,0⟩
   else if (rd a m).ok=true then rdList rd s f (rd a m).at_ (rd a m).many (acc++[(rd a m).v]) else Rd.no (rd a m).at_ (rd a m).many (rd a m).bad
def rdText (s:ByteArray) (a m:Nat):Rd :=
 if (digitsL s 131072 a (s.size+1 - a) 0 a).2.1=true then
  (if (mustL s (digitsL s 131072 a (s.size+1 - a) 0 a).2.2.1 58).1=true then
    (if s.size - (mustL s (digitsL s 131072 a (s.size+1 - a) 0 a).2.2.1 58).2.1<(digitsL s 131072 a (s.size+1 - a) 0 a).1 then Rd.no s.size m 10
     else ⟨.mk 2 0 (s.extract (mustL s (digitsL s 131072 a (s.size+1 - a) 0 a).2.2.1 58).2.1 ((mustL s (digitsL s 131072 a (s.size+1 - a) 0 a).2.2.1 58).2.1+(digitsL s 131072 a (s.size+1 - a) 0 a).1)) [],true,(mustL s (digitsL s 131072 a (s.size+1 - a) 0 a).2.2.1 58).2.1+(digitsL s 131072 a (s.size+1 - a) 0 a).1,m,0⟩)
   else Rd.no (mustL s (digitsL s 131072 a (s.size+1 - a) 0 a).2.2.1 58).2.1 m (mustL s (digitsL s 131072 a (s.size+1 - a) 0 a).2.2.1 58).2.2)
 else Rd.no (digitsL s 131072 a (s.size+1 - a) 0 a).2.2.1 m (digitsL s 131072 a (s.size+1 - a) 0 a).2.2.2
def rdNumber (s:ByteArray) (a m:Nat):Rd:=⟨.mk 1 (numberL s a).1 ⟨#[]⟩ [],(numberL s a).2.1,(numberL s a).2.2.1,m,(numberL s a).2.2.2⟩
def begins (c:UInt8):Bool:=c==105||c==108||(decide (48≤c.toNat)&&decide (c.toNat≤57))
def rdValue (s:ByteArray):Nat→Nat→Nat→Rd
 | 0,a,m=>match s.data.toList[a]? with
   | none=>Rd.no a m 10
   | some c=>if begins c then Rd.no a m 12 else Rd.no a m 11
 | d+1,a,m=>match s.data.toList[a]? with
   | none=>Rd.no a m 10
   | some c=>if begins c then (if 4000≤m then Rd.no a m 2
      else if c=105 then rdNumber s (a+1) (m+1)
      else if c=108 then rdList (rdValue s d) s (s.size+1 - (a+1)) (a+1) (m+1) []
      else rdText s a (m+1))
     else Rd.no a m 11
end Go.Proofs.YtlpgbmaoenncjaaGreatDoor

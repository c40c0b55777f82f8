/-
  code.reader in memory, and the walks of its fail and must.
  Values (api.Val) in memory: four cells, the last one the slice of the values within; without a condition.
  The walk of code.reader's digits: the number that stands there, or what is wrong.
  The walk of code.reader's number. (Written by wip/mknum.py.)
  What code.reader's value reads, by definition; without a condition.
  The walk of code.reader's value.
  The walk of code.reader's value: a number.
  The walk of code.reader's value: a text. (Written by wip/mkval.py.)
  The walk of code.reader's value: a text that is one. (Written by wip/mkval.py D.)
  Rows of values of one's own, and append of one value onto them; without a condition but for the sizes.
  The walk of code.reader's value: a list.
  code.reader's value, whole.
  The walk of code.Get: any text is read as just that value, or refused.
  The walk of the closure of code.Right, and of code.Right.
  The walk of the closure of code.Right where it is far.
  The walk of the closure of code.Right where it is near.
  The walk of code.Right: which values may be; for any value of at most 2^61 values.
-/
import Derived.Test.YtlpgbmaoenncjaaGreatDoorGen
import Derived.Deep.LoopGhost
import Derived.Laws.ResultCell
import Derived.Maps.AppendAt
import Derived.KernelRfl
import Derived.Test.YtlpgbmaoenncjaaGreatDoorRows
import Derived.Below
import Derived.Test.YtlpgbmaoenncjaaGreatDoorShelf
import Derived.RangeFuncBox
import Derived.Deep.DeepCutAuto
import Derived.Deep.CutBlock
import Derived.Laws.EntriesVeiled
namespace Go.Proofs.YtlpgbmaoenncjaaGreatDoor
open Go.RowKit
set_option linter.unusedVariables false
structure RdAt (w:World) (r:Nat) (s:ByteArray) (a m b:Int):Prop where
 lt:r<w.heap.size
 c0:w.cell? ⟨r,0,none⟩=some (.string s)
 c1:w.cell? ⟨r,1,none⟩=some (.int .i64 a)
 c2:w.cell? ⟨r,2,none⟩=some (.int .i64 m)
 c3:w.cell? ⟨r,3,none⟩=some (.int .i64 b)
 free:∀ j,j<4→w.frozen? ⟨r,j,none⟩=false
theorem RdAt.drewN {w:World}{r:Nat}{s:ByteArray}{a m b:Int}(h:RdAt w r s a m b) (n:Nat):RdAt (w.drewN n) r s a m b:=⟨h.lt,h.c0,h.c1,h.c2,h.c3,h.free⟩
theorem RdAt.kept {w w':World}{r:Nat}{s:ByteArray}{a m b:Int}(h:RdAt w r s a m b) {row:Option Nat}(hg:w.grownBy w' row) (hr:some r≠row):RdAt w' r s a m b:=by
 have hb:=hg.block r h.lt hr
 exact⟨Nat.lt_of_lt_of_le h.lt hg.size,hg.cell h.c0 hr,hg.cell h.c1 hr,hg.cell h.c2 hr,hg.cell h.c3 hr,fun j hj=>by rw [World.frozen?_of_block (a:=⟨r,j,none⟩) hb]; exact h.free j hj⟩
theorem RdAt.alloc {w:World}{r:Nat}{s:ByteArray}{a m b:Int}(h:RdAt w r s a m b) (o:Obj):RdAt (w.alloc o) r s a m b:=h.kept (World.grownBy_alloc w o none) (by simp)
theorem addr_ne {r i j:Nat}(h:i≠j):(⟨r,i,none⟩:Addr)≠⟨r,j,none⟩:=fun e=>h (congrArg Addr.off e)
theorem RdAt.setAt {w:World}{r:Nat}{s:ByteArray}{a m b:Int}(h:RdAt w r s a m b) (a':Int):RdAt (w.setCell ⟨r,1,none⟩ (.int .i64 a')) r s a' m b :=
 ⟨by simpa using h.lt,by rw [World.cell?_setCell_other w _ _ _ (addr_ne (by decide))]; exact h.c0,World.cell?_setCell_same w _ _ h.c1,by rw [World.cell?_setCell_other w _ _ _ (addr_ne (by decide))]; exact h.c2,
   by rw [World.cell?_setCell_other w _ _ _ (addr_ne (by decide))]; exact h.c3,fun j hj=>by rw [World.frozen?_setCell]; exact h.free j hj⟩
theorem RdAt.setMany {w:World}{r:Nat}{s:ByteArray}{a m b:Int}(h:RdAt w r s a m b) (m':Int):RdAt (w.setCell ⟨r,2,none⟩ (.int .i64 m')) r s a m' b :=
 ⟨by simpa using h.lt,by rw [World.cell?_setCell_other w _ _ _ (addr_ne (by decide))]; exact h.c0,by rw [World.cell?_setCell_other w _ _ _ (addr_ne (by decide))]; exact h.c1,World.cell?_setCell_same w _ _ h.c2,
   by rw [World.cell?_setCell_other w _ _ _ (addr_ne (by decide))]; exact h.c3,fun j hj=>by rw [World.frozen?_setCell]; exact h.free j hj⟩
theorem RdAt.setBad {w:World}{r:Nat}{s:ByteArray}{a m b:Int}(h:RdAt w r s a m b) (b':Int):RdAt (w.setCell ⟨r,3,none⟩ (.int .i64 b')) r s a m b' :=
 ⟨by simpa using h.lt,by rw [World.cell?_setCell_other w _ _ _ (addr_ne (by decide))]; exact h.c0,by rw [World.cell?_setCell_other w _ _ _ (addr_ne (by decide))]; exact h.c1,by rw [World.cell?_setCell_other w _ _ _ (addr_ne (by decide))]; exact h.c2,
   World.cell?_setCell_same w _ _ h.c3,fun j hj=>by rw [World.frozen?_setCell]; exact h.free j hj⟩
set_option maxHeartbeats 1000000 in
theorem fail_any (r:Nat) (s:ByteArray) (a m x:Int) (w:World) (h:RdAt w r s a m 0) :
 Calls Tryz.prog 93 #[.pointer (some ⟨r,0,none⟩),.int .i64 x] w fun e w'=>e = .returned (.bool false)∧RdAt w' r s a m x∧w.grownBy w' (some r):=by
 have H:=Lib.hid h
 have c3:=h.c3
 have f3:=h.free 3 (by decide)
 clear h
 go_enter Tryz.func93,Tryz.ntmps93
 go_wp2_with fail
 go_ret
 exact⟨rfl,H.out.setBad x,grown_setCell _ _ _ _⟩
def mustL (s:ByteArray) (a:Nat) (c:UInt8):Bool × Nat × Int :=
 if h:a<s.size then (if s[a]=c then (true,a+1,0) else (false,a,11)) else (false,a,10)
set_option maxHeartbeats 2000000 in
theorem must_any (r:Nat) (s:ByteArray) (a:Nat) (m:Int) (c:UInt8) (w:World) (h:RdAt w r s a m 0) (hs:s.size≤maxLen) (x:Bool × Nat × Int) (hx:Hid (x=mustL s a c)) :
 Calls Tryz.prog 136 #[.pointer (some ⟨r,0,none⟩),.int .u8 (c.toNat:Int)] w fun e w'=>e = .returned (.bool x.1)∧RdAt w' r s (x.2.1:Int) m x.2.2∧w.grownBy w' (some r):=by
 unfold maxLen at hs
 have H:=Lib.hid h
 have c0:=h.c0
 have c1:=h.c1
 have f1:=h.free 1 (by decide)
 by_cases h1:a<s.size
 ·have hi:(a:Int)<(s.size:Int):=by omega
  by_cases h2:s[a]=c
  ·have hne:((s[a].toNat:Int) != (c.toNat:Int))=false:=by rw [h2]; simp
   have HX:Hid (x=(true,a+1,0)):=Lib.hid (by rw [hx.out,mustL,dif_pos h1,if_pos h2])
   clear h h2 hx
   go_enter Tryz.func136,Tryz.ntmps136
   go_wp2_with fail
   go_quiet (fail)
   go_wp2_with fail
   go_quiet (fail)
   go_wp2_with fail
   go_ret
   rw [HX.out]
   exact⟨rfl,by simpa using (H.out.drewN _).setAt _,grown_trans (grown_drewN (World.grownBy.refl _ _) _) (grown_setCell _ _ _ _)⟩
  ·have hne:((s[a].toNat:Int) != (c.toNat:Int))=true:=by
    rw [bne_iff_ne]
    intro e
    exact h2 (UInt8.toNat_inj.1 (by omega))
   have HX:Hid (x=(false,a,11)):=Lib.hid (by rw [hx.out,mustL,dif_pos h1,if_neg h2])
   clear h h2 hx
   go_enter Tryz.func136,Tryz.ntmps136
   go_wp2_with fail
   go_quiet (fail)
   go_wp2_with fail
   go_quiet (fail)
   go_wp2_with fail
   refine (fail_any r s a m 11 _ (H.out.drewN _)).mono ?_
   rintro e w1 ⟨rfl,hr1,hg1⟩
   have HR:=Lib.hid hr1
   have HG:=Lib.hid hg1
   clear hr1 hg1
   go_wp2_with fail
   go_ret
   rw [HX.out]
   exact⟨rfl,HR.out,⟨HG.out.os,HG.out.tape,HG.out.output,HG.out.size,HG.out.block⟩⟩
 ·have hi:(s.size:Int)≤(a:Int):=by omega
  have HX:Hid (x=(false,a,10)):=Lib.hid (by rw [hx.out,mustL,dif_neg h1])
  clear h hx
  go_enter Tryz.func136,Tryz.ntmps136
  go_wp2_with fail
  go_quiet (fail)
  go_wp2_with fail
  refine (fail_any r s a m 10 _ (H.out.drewN _)).mono ?_
  rintro e w1 ⟨rfl,hr1,hg1⟩
  have HR:=Lib.hid hr1
  have HG:=Lib.hid hg1
  clear hr1 hg1
  go_wp2_with fail
  go_ret
  rw [HX.out]
  exact⟨rfl,HR.out,⟨HG.out.os,HG.out.tape,HG.out.output,HG.out.size,HG.out.block⟩⟩
end Go.Proofs.YtlpgbmaoenncjaaGreatDoor
namespace Go.Proofs.YtlpgbmaoenncjaaGreatDoor
open Go.RowKit
set_option linter.unusedVariables false
inductive V where
 | mk (kind n:Int) (s:ByteArray) (l:List V)
mutual
def V.At (w:World) (S:Nat→Prop):V→List Value→Prop
 | .mk k n s l,cs=>∃ (a:Option Addr) (c:Nat),cs=[.int .i64 k,.int .i64 n,.string s,.slice a l.length c]∧l.length≤c∧(a=none→c=0)∧VAll w S a 0 l
def VAll (w:World) (S:Nat→Prop) (a:Option Addr):Nat→List V→Prop
 | _,[]=>True
 | i,x :: r=>(∃ (b o:Nat) (cs:List Value),a=some ⟨b,o,none⟩∧S b∧V.At w S x cs∧∀ j u,cs[j]? = some u→w.cell? ⟨b,o+i*4+j,none⟩=some u)∧VAll w S a (i+1) r
end
mutual
theorem V.At.move {w w':World}{S T:Nat→Prop}(hT:∀ b,S b→T b) (hk:∀ b,S b→w'.heap[b]? = w.heap[b]?):∀ (x:V) (cs:List Value),V.At w S x cs→V.At w' T x cs
 | .mk k n s l,cs,h=>by
   simp only [V.At] at h ⊢
   obtain⟨a,c,h1,h2,h3,h4⟩:=h
   exact⟨a,c,h1,h2,h3,VAll.move hT hk a 0 l h4⟩
theorem VAll.move {w w':World}{S T:Nat→Prop}(hT:∀ b,S b→T b) (hk:∀ b,S b→w'.heap[b]? = w.heap[b]?) (a:Option Addr):∀ (i:Nat) (l:List V),VAll w S a i l→VAll w' T a i l
 | _,[],_=>by simp only [VAll]
 | i,x :: r,h=>by
   simp only [VAll] at h ⊢
   obtain⟨⟨b,o,cs,h1,h2,h3,h4⟩,h5⟩:=h
   exact⟨⟨b,o,cs,h1,hT b h2,V.At.move hT hk x cs h3,fun j u hj=>(World.cell?_of_block (hk b h2)).trans (h4 j u hj)⟩,VAll.move hT hk a (i+1) r h5⟩
end
theorem V.At.four {w:World}{S:Nat→Prop}:∀ {x:V}{cs:List Value},V.At w S x cs→cs.length=4∧∀ u∈cs,u.oneCell'=true
 | .mk k n s l,cs,h=>by
   simp only [V.At] at h
   obtain⟨a,c,rfl,_⟩:=h
   refine⟨rfl,fun u hu=>?_⟩
   simp at hu
   rcases hu with rfl | rfl | rfl | rfl <;> rfl
inductive RowOf (w:World) (S:Nat→Prop):List V→List Value→Prop
 | nil:RowOf w S [] []
 | snoc {l:List V}{cells:List Value}{x:V}{cs:List Value}:RowOf w S l cells→V.At w S x cs→RowOf w S (l++[x]) (cells++cs)
theorem RowOf.length {w:World}{S:Nat→Prop}{l:List V}{cells:List Value}(h:RowOf w S l cells):cells.length=l.length*4:=by
 induction h with
 | nil=>rfl
 | snoc h1 h2 ih=>rw [List.length_append,List.length_append,ih,h2.four.1]; simp; omega
theorem RowOf.one {w:World}{S:Nat→Prop}{l:List V}{cells:List Value}(h:RowOf w S l cells):∀ u∈cells,u.oneCell'=true:=by
 induction h with
 | nil=>intro u hu; cases hu
 | snoc h1 h2 ih =>
   intro u hu
   rcases List.mem_append.1 hu with h | h
   ·exact ih u h
   ·exact h2.four.2 u h
theorem RowOf.move {w w':World}{S T:Nat→Prop}(hT:∀ b,S b→T b) (hk:∀ b,S b→w'.heap[b]? = w.heap[b]?) {l:List V}{cells:List Value}(h:RowOf w S l cells):RowOf w' T l cells:=by
 induction h with
 | nil=>exact .nil
 | snoc h1 h2 ih=>exact .snoc ih (V.At.move hT hk _ _ h2)
theorem VAll.snoc {w:World}{S:Nat→Prop}(a:Option Addr) (x:V):∀ (i:Nat) (l:List V),VAll w S a i l →
 (∃ (b o:Nat) (cs:List Value),a=some ⟨b,o,none⟩∧S b∧V.At w S x cs∧∀ j u,cs[j]? = some u→w.cell? ⟨b,o+(i+l.length)*4+j,none⟩=some u)→VAll w S a i (l++[x])
 | i,[],h,hx=>by
   simp only [List.nil_append,VAll]
   simp only [List.length_nil,Nat.add_zero] at hx
   exact⟨hx,trivial⟩
 | i,y :: r,h,hx=>by
   simp only [List.cons_append,VAll] at h ⊢
   refine⟨h.1,VAll.snoc a x (i+1) r h.2 ?_⟩
   have e:i+(y :: r).length=i+1+r.length:=by simp; omega
   rw [e] at hx
   exact hx
theorem RowOf.all {w:World}{S:Nat→Prop}{b:Nat}(hb:S b) {l:List V}{cells:List Value}(h:RowOf w S l cells) (hc:∀ j u,cells[j]? = some u→w.cell? ⟨b,j,none⟩=some u):VAll w S (some ⟨b,0,none⟩) 0 l:=by
 induction h with
 | nil=>simp only [VAll]
 | snoc h1 h2 ih =>
   rename_i l cells x cs
   refine VAll.snoc _ x 0 l (ih fun j u hj=>hc j u (by rw [List.getElem?_append_left (List.getElem?_eq_some_iff.1 hj).1]; exact hj)) ⟨b,0,cs,rfl,hb,h2,fun j u hj=>?_⟩
   have hl:=h1.length
   rw [show 0+(0+l.length)*4+j=cells.length+j by omega]
   exact hc _ u (by rw [List.getElem?_append_right (Nat.le_add_right _ _),Nat.add_sub_cancel_left]; exact hj)
end Go.Proofs.YtlpgbmaoenncjaaGreatDoor
namespace Go.Proofs.YtlpgbmaoenncjaaGreatDoor
open Go.RowKit
set_option linter.unusedVariables false
def digitsL (s:ByteArray) (most from_:Nat):Nat→Nat→Nat→Nat × Bool × Nat × Int
 | 0,_,a=>(0,false,a,10)
 | f+1,n,a=>if h:a<s.size then
    (if s[a].toNat<48∨57<s[a].toNat then (if a=from_ then (0,false,a,11) else (n,true,a,0))
     else if (from_<a∧n=0)∨(most - (s[a].toNat - 48)) / 10<n then (0,false,a,11)
     else digitsL s most from_ f (10*n+(s[a].toNat - 48)) (a+1))
   else (0,false,a,10)
def DigPost (r:Nat) (s:ByteArray) (m:Int) (w:World) (x:Nat × Bool × Nat × Int) (e:Ending) (w':World):Prop :=
 e = .returned (.tuple #[.int .u64 (x.1:Int),.bool x.2.1])∧RdAt w' r s (x.2.2.1:Int) m x.2.2.2∧w.grownBy w' (some r)
theorem grown_drew_l {w w':World}{n:Nat}{row:Option Nat}(h:(w.drewN n).grownBy w' row):w.grownBy w' row:=⟨h.os,h.tape,h.output,h.size,h.block⟩
set_option maxRecDepth 20000 in
set_option maxHeartbeats 4000000 in
theorem digits_any (r:Nat) (s:ByteArray) (a0:Nat) (m:Int) (most:Nat) (w:World) (h:RdAt w r s a0 m 0) (hs:s.size≤maxLen) (ha:a0≤s.size) (h9:9≤most) (hm:most≤9223372036854775808)
 (x:Nat × Bool × Nat × Int) (hx:Hid (x=digitsL s most a0 (s.size+1 - a0) 0 a0)) :
 Calls Tryz.prog 135 #[.pointer (some ⟨r,0,none⟩),.int .u64 (most:Int)] w (DigPost r s m w x):=by
 unfold maxLen at hs
 have H:=Lib.hid h
 have c1:=h.c1
 clear h
 go_enter Tryz.func135,Tryz.ntmps135
 go_wp2_with fail
 go_quiet (fail)
 clear c1
 go_wp2_with fail
 go_loopg [6] (s.size+1 - a0) (fun gk v6 wr=>∃ n a:Nat,gk=s.size+1 - a∧v6 = .int .u64 (n:Int)∧a0≤a∧a≤s.size∧n≤most∧Hid (RdAt wr r s (a:Int) m 0)∧Hid (w.grownBy wr (some r))∧Hid (x=digitsL s most a0 (s.size+1 - a) n a))
 case atStart=>exact⟨0,a0,rfl,rfl,Nat.le_refl _,ha,Nat.zero_le _,Lib.hid (H.out.drewN _),Lib.hid (grown_drewN (World.grownBy.refl _ _) _),hx⟩
 case round =>
  obtain⟨n,a,rfl,rfl,ha0,has,hn,hR,hG,hX⟩:=hrel
  have c0:=hR.out.c0
  have c1:=hR.out.c1
  have f1:=hR.out.free 1 (by decide)
  by_cases h1:a<s.size
  ·have hi:(a:Int)<(s.size:Int):=by omega
   have hfu:s.size+1 - a=(s.size - a)+1:=by omega
   have hst:=hX.out
   rw [hfu,digitsL,dif_pos h1] at hst
   have hfx:s.size - a=s.size+1 - (a+1):=by omega
   rw [hfx] at hst
   by_cases hd:s[a].toNat<48∨57<s[a].toNat
   ·rw [if_pos hd] at hst
    have hpk:((s[a].toNat:Int)<48)∨((48:Int)≤(s[a].toNat:Int)∧(57:Int)<(s[a].toNat:Int)):=by omega
    by_cases h2:a=a0
    ·subst h2
     rw [if_pos rfl] at hst
     have HS:=Lib.hid hst
     clear hst hd hX
     rcases hpk with hk | ⟨hk1,hk2⟩
     all_goals
      go_wp2_with fail
      go_quiet (fail)
      go_wp2_with fail
      go_quiet (fail)
      go_wp2_with fail
      refine (fail_any r s a m 11 _ (hR.out.drewN _)).mono ?_
      rintro e w1 ⟨rfl,hr1,hg1⟩
      have HR:=Lib.hid hr1
      have HG:=Lib.hid (grown_trans hG.out (grown_drew_l hg1))
      clear hr1 hg1
      go_wp2_with fail
      go_ret2
      rw [HS.out]
      exact⟨rfl,HR.out,HG.out⟩
    ·rw [if_neg h2] at hst
     have hne:((a:Int)==(a0:Int))=false:=by rw [beq_eq_false_iff_ne]; omega
     have HS:=Lib.hid hst
     clear hst hd hX h2
     rcases hpk with hk | ⟨hk1,hk2⟩
     all_goals
      go_wp2_with fail
      go_quiet (fail)
      go_wp2_with fail
      go_quiet (fail)
      go_wp2_with fail
      go_ret2
      rw [HS.out]
      exact⟨rfl,hR.out.drewN _,grown_drewN hG.out _⟩
   ·rw [if_neg hd] at hst
    have hk1:(48:Int)≤(s[a].toNat:Int):=by omega
    have hk2:(s[a].toNat:Int)≤57:=by omega
    obtain⟨d,hdd⟩:∃ d:Nat,s[a].toNat=d+48:=⟨s[a].toNat - 48,by omega⟩
    have hd9:d≤9:=by omega
    have hds:s[a].toNat - 48=d:=by omega
    rw [hds] at hst
    have hwd:(s[a].toNat:Int) - 48=(d:Int):=by omega
    clear hds hd
    by_cases hz:a0<a∧n=0
    ·rw [if_pos (.inl hz)] at hst
     obtain⟨hz1,rfl⟩:=hz
     have hzi:(a0:Int)<(a:Int):=by omega
     have HS:=Lib.hid hst
     clear hst hX hdd
     go_wp2_with fail
     go_quiet (fail)
     go_wp2_with fail
     go_quiet (fail)
     go_wp2_with fail
     refine (fail_any r s a m 11 _ (hR.out.drewN _)).mono ?_
     rintro e w1 ⟨rfl,hr1,hg1⟩
     have HR:=Lib.hid hr1
     have HG:=Lib.hid (grown_trans hG.out (grown_drew_l hg1))
     clear hr1 hg1
     go_wp2_with fail
     go_ret2
     rw [HS.out]
     exact⟨rfl,HR.out,HG.out⟩
    ·have hq:((most:Int) - (d:Int))=((most - d:Nat):Int):=by omega
     have hgd:((a0:Int)<(a:Int)∧((n:Int)==0)=false)∨(a:Int)≤(a0:Int):=by
      rcases Nat.lt_or_ge a0 a with h | h
      ·exact .inl ⟨by omega,by rw [beq_eq_false_iff_ne]; intro e; exact hz ⟨h,by omega⟩⟩
      ·exact .inr (by omega)
     by_cases hov:(most - d) / 10<n
     ·rw [if_pos (.inr hov)] at hst
      have hovi:((most - d:Nat):Int) / 10<(n:Int):=by omega
      have HST:=Lib.hid hst
      clear hst hX hdd hov hz
      rcases hgd with ⟨hg1,hg2⟩ | hg1
      all_goals
       go_wp2_with fail
       go_quiet (fail)
       go_wp2_with fail
       go_quiet (fail)
       go_wp2_with fail
       refine (fail_any r s a m 11 _ (hR.out.drewN _)).mono ?_
       rintro e w1 ⟨rfl,hr1,hg1⟩
       have HR:=Lib.hid hr1
       have HG:=Lib.hid (grown_trans hG.out (grown_drew_l hg1))
       clear hr1 hg1
       go_wp2_with fail
       go_ret2
       rw [HST.out]
       exact⟨rfl,HR.out,HG.out⟩
     ·rw [if_neg (fun e=>e.elim hz hov)] at hst
      have hovi:(n:Int)≤((most - d:Nat):Int) / 10:=by omega
      have hnm:10*n+d≤most:=by omega
      have HST:=Lib.hid hst
      clear hst hX hdd hov hz
      rcases hgd with ⟨hg1,hg2⟩ | hg1
      all_goals
       go_wp2_with fail
       go_quiet (fail)
       go_wp2_with fail
       go_quiet (fail)
       go_wp2_with fail
       go_roundg (s.size+1 - (a+1))
       case rel=>exact⟨10*n+d,a+1,rfl,by go_num,by omega,by omega,hnm,Lib.hid (by simpa using (hR.out.drewN _).setAt ((a:Int)+1)),Lib.hid (grown_trans hG.out (grown_trans (grown_drewN (World.grownBy.refl _ _) _) (grown_setCell _ _ _ _))),HST⟩
       case measure=>omega
  ·have hi:(s.size:Int)≤(a:Int):=by omega
   have hfu:s.size+1 - a=(s.size - a)+1:=by omega
   have hst:=hX.out
   rw [hfu,digitsL,dif_neg h1] at hst
   have HS:=Lib.hid hst
   clear hst hX
   go_wp2_with fail
   go_quiet (fail)
   go_wp2_with fail
   refine (fail_any r s a m 10 _ (hR.out.drewN _)).mono ?_
   rintro e w1 ⟨rfl,hr1,hg1⟩
   have HR:=Lib.hid hr1
   have HG:=Lib.hid (grown_trans hG.out (grown_drew_l hg1))
   clear hr1 hg1
   go_wp2_with fail
   go_ret2
   rw [HS.out]
   exact⟨rfl,HR.out,HG.out⟩
end Go.Proofs.YtlpgbmaoenncjaaGreatDoor
namespace Go.Proofs.YtlpgbmaoenncjaaGreatDoor
open Go.RowKit
set_option linter.unusedVariables false
theorem digitsL_ok (s:ByteArray) (most from_:Nat) (h9:9≤most):∀ (f n a:Nat),from_≤a→n≤most→(digitsL s most from_ f n a).2.1=true →
 (digitsL s most from_ f n a).2.2.2=0∧(digitsL s most from_ f n a).1≤most∧from_<(digitsL s most from_ f n a).2.2.1∧(digitsL s most from_ f n a).2.2.1<s.size
 | 0,n,a,_,_,h=>by simp [digitsL] at h
 | f+1,n,a,ha,hn,h=>by
   rw [digitsL] at h ⊢
   by_cases h1:a<s.size
   ·rw [dif_pos h1] at h ⊢
    by_cases h2:s[a].toNat<48∨57<s[a].toNat
    ·rw [if_pos h2] at h ⊢
     by_cases h3:a=from_
     ·rw [if_pos h3] at h; simp at h
     ·rw [if_neg h3] at h ⊢
      exact⟨rfl,hn,by dsimp only; omega,h1⟩
    ·rw [if_neg h2] at h ⊢
     by_cases h3:(from_<a∧n=0)∨(most - (s[a].toNat - 48)) / 10<n
     ·rw [if_pos h3] at h; simp at h
     ·rw [if_neg h3] at h ⊢
      have hnm:10*n+(s[a].toNat - 48)≤most:=by
       have:¬ (most - (s[a].toNat - 48)) / 10<n:=fun e=>h3 (.inr e)
       omega
      exact digitsL_ok s most from_ h9 f _ (a+1) (by omega) hnm h
   ·rw [dif_neg h1] at h; simp at h
theorem mustL_ok (s:ByteArray) (a:Nat) (c:UInt8) (h:(mustL s a c).1=true):(mustL s a c).2.2=0:=by
 unfold mustL at h ⊢
 split
 ·split
  ·rfl
  ·rename_i h1 h2; rw [dif_pos h1,if_neg h2] at h; simp at h
 ·rename_i h1; rw [dif_neg h1] at h; simp at h
theorem conv_neg (n:Nat) (h:n≤9223372036854775808):wrap64 (-(wrap64 (n:Int))) = -(n:Int):=by
 unfold wrap64; omega
theorem conv_pos (n:Nat) (h:n≤9223372036854775807):IntKind.i64.wrap (n:Int)=(n:Int):=by
 rw [IntKind.wrap_i64]; omega
def numTail (s:ByteArray) (most:Nat) (minus:Bool) (a:Nat):Int × Bool × Nat × Int :=
 if (digitsL s most a (s.size+1 - a) 0 a).2.1=true then
  (if (mustL s (digitsL s most a (s.size+1 - a) 0 a).2.2.1 101).1=true then ((if minus=true then -((digitsL s most a (s.size+1 - a) 0 a).1:Int) else ((digitsL s most a (s.size+1 - a) 0 a).1:Int)),true,(mustL s (digitsL s most a (s.size+1 - a) 0 a).2.2.1 101).2.1,0)
   else (0,false,(mustL s (digitsL s most a (s.size+1 - a) 0 a).2.2.1 101).2.1,(mustL s (digitsL s most a (s.size+1 - a) 0 a).2.2.1 101).2.2))
 else (0,false,(digitsL s most a (s.size+1 - a) 0 a).2.2.1,(digitsL s most a (s.size+1 - a) 0 a).2.2.2)
def numberL (s:ByteArray) (a:Nat):Int × Bool × Nat × Int :=
 if s.data.toList[a]? = some 45 then (if s.data.toList[a+1]? = some 48 then (0,false,a+1,11) else numTail s 9223372036854775808 true (a+1))
 else numTail s 9223372036854775807 false a
theorem at_lt {s:ByteArray}{a:Nat}(h:a<s.size):s.data.toList[a]? = some s[a]:=by
 rw [List.getElem?_eq_getElem (by simpa using h)]; rfl
theorem at_ge {s:ByteArray}{a:Nat}(h:¬ a<s.size):s.data.toList[a]? = none:=List.getElem?_eq_none (by simp; omega)
theorem byte_eq {x c:UInt8}(h:x=c):((x.toNat:Int)==(c.toNat:Int))=true:=by rw [h]; simp
theorem byte_ne {x c:UInt8}(h:x≠c):((x.toNat:Int)==(c.toNat:Int))=false:=by
 rw [beq_eq_false_iff_ne]; intro e; exact h (UInt8.toNat_inj.1 (by omega))
def NumPost (r:Nat) (s:ByteArray) (m:Int) (w:World) (x:Int × Bool × Nat × Int) (e:Ending) (w':World):Prop :=
 e = .returned (.tuple #[.int .i64 x.1,.bool x.2.1])∧RdAt w' r s (x.2.2.1:Int) m x.2.2.2∧w.grownBy w' (some r)
set_option maxRecDepth 20000 in
set_option maxHeartbeats 4000000 in
theorem number_any (r:Nat) (s:ByteArray) (a:Nat) (m:Int) (w:World) (h:RdAt w r s a m 0) (hs:s.size≤maxLen) (ha:a≤s.size) (x:Int × Bool × Nat × Int) (hx:Hid (x=numberL s a)) :
 Calls Tryz.prog 134 #[.pointer (some ⟨r,0,none⟩)] w (NumPost r s m w x):=by
 have hs':s.size≤9223372036854775807:=by unfold maxLen at hs; omega
 have H:=Lib.hid h
 have c0:=h.c0
 have c1:=h.c1
 have f1:=h.free 1 (by decide)
 clear h
 by_cases h1:a<s.size
 ·have hi:(a:Int)<(s.size:Int):=by omega
  by_cases h2:s[a]=45
  ·have hb:((s[a].toNat:Int)==45)=true:=byte_eq h2
   obtain⟨A,hA⟩:∃ A,A=a+1:=⟨_,rfl⟩
   have hnx:numberL s a=if s.data.toList[A]? = some 48 then (0,false,A,11) else numTail s 9223372036854775808 true A:=by
    subst hA; unfold numberL; rw [at_lt h1,h2]; simp
   have HR8:Hid (∀ n,RdAt ((w.drewN n).setCell ⟨r,1,none⟩ (.int .i64 ((a:Int)+1))) r s (A:Int) m 0):=Lib.hid (fun n=>by rw [show (A:Int)=(a:Int)+1 by omega]; simpa using (H.out.drewN n).setAt ((a:Int)+1))
   have hAs:A≤s.size:=by omega
   clear h2 hA
   by_cases h3:s.data.toList[A]? = some 48
   ·rw [if_pos h3] at hnx
    have h4:A<s.size:=by
     rcases Nat.lt_or_ge A s.size with h | h
     ·exact h
     ·rw [at_ge (by omega)] at h3; cases h3
    rw [at_lt h4] at h3
    have hb2:((s[A].toNat:Int)==48)=true:=byte_eq (Option.some.inj h3)
    have hi2:(A:Int)<(s.size:Int):=by omega
    have HX:Hid (x=(0,false,A,11)):=Lib.hid (by rw [hx.out,hnx])
    clear h3 hnx hx
    go_enter Tryz.func134,Tryz.ntmps134
    go_wp2_with fail
    go_quiet (fail)
    go_wp2_with fail
    have hR8:=Lib.hid (HR8.out nq)
    have hG8:Hid (w.grownBy ((w.drewN nq).setCell ⟨r,1,none⟩ (.int .i64 ((a:Int)+1))) (some r)):=Lib.hid (grown_trans (grown_drewN (World.grownBy.refl _ _) _) (grown_setCell _ _ _ _))
    clear c0 c1 f1 HR8
    generalize ((w.drewN nq).setCell ⟨r,1,none⟩ (.int .i64 ((a:Int)+1)))=w8 at *
    have d0:=hR8.out.c0
    have d1:=hR8.out.c1
    go_quiet (fail)
    go_wp2_with fail
    refine (fail_any r s (A:Int) m 11 _ (hR8.out.drewN _)).mono ?_
    rintro e w1 ⟨rfl,hr1,hg1⟩
    have HR:=Lib.hid hr1
    have HG:=Lib.hid (grown_trans hG8.out (grown_drew_l hg1))
    clear hr1 hg1
    go_wp2_with fail
    go_ret2
    rw [HX.out]
    exact⟨rfl,HR.out,HG.out⟩
   ·rw [if_neg h3] at hnx
    have HT:Hid (x=numTail s 9223372036854775808 true A):=Lib.hid (by rw [hx.out,hnx])
    by_cases h4:A<s.size
    ·rw [at_lt h4] at h3
     have hb2:((s[A].toNat:Int)==48)=false:=byte_ne (c:=48) (fun e=>h3 (by rw [e]))
     have hi2:(A:Int)<(s.size:Int):=by omega
     clear h3 hnx hx
     go_enter Tryz.func134,Tryz.ntmps134
     go_wp2_with fail
     go_quiet (fail)
     go_wp2_with fail
     have hR8:=Lib.hid (HR8.out nq)
     have hG8:Hid (w.grownBy ((w.drewN nq).setCell ⟨r,1,none⟩ (.int .i64 ((a:Int)+1))) (some r)):=Lib.hid (grown_trans (grown_drewN (World.grownBy.refl _ _) _) (grown_setCell _ _ _ _))
     clear c0 c1 f1 HR8
     generalize ((w.drewN nq).setCell ⟨r,1,none⟩ (.int .i64 ((a:Int)+1)))=w8 at *
     have d0:=hR8.out.c0
     have d1:=hR8.out.c1
     go_quiet (fail)
     go_wp2_with fail
     refine (digits_any r s (A) m 9223372036854775808 _ (hR8.out.drewN _) hs (by omega) (by decide) (by decide) _ (Lib.hid rfl)).mono ?_
     rintro e w1 ⟨rfl,hr1,hg1⟩
     have hst:=HT.out
     rw [numTail] at hst
     have hok:=digitsL_ok s 9223372036854775808 (A) (by decide) (s.size+1 - (A)) 0 (A) (Nat.le_refl _) (Nat.zero_le _)
     generalize digitsL s 9223372036854775808 (A) (s.size+1 - (A)) 0 (A)=x1 at *
     obtain⟨n1,ok1,a1,b1⟩:=x1
     have HR1:=Lib.hid hr1
     have HG1:=Lib.hid (grown_trans (grown_trans hG8.out (grown_drewN (World.grownBy.refl _ _) _)) hg1)
     clear hr1 hg1
     cases ok1 with
     | false =>
       dsimp only at hst
       rw [if_neg (by decide)] at hst
       have HST:=Lib.hid hst
       clear hst hok
       go_wp2_with fail
       go_ret2
       rw [HST.out]
       exact⟨rfl,HR1.out,HG1.out⟩
     | true =>
       obtain⟨hb1,hn1,ha1,ha2⟩:=hok rfl
       dsimp only at hb1 hn1 ha1 ha2
       subst hb1
       dsimp only at hst
       rw [if_pos rfl] at hst
       have HST0:=Lib.hid hst
       clear hst hok
       go_wp2_with fail
       refine (must_any r s a1 m 101 w1 HR1.out hs _ (Lib.hid rfl)).mono ?_
       rintro e w2 ⟨rfl,hr2,hg2⟩
       have hst:=HST0.out
       clear HST0
       have hz:=mustL_ok s a1 101
       generalize mustL s a1 101=y at *
       obtain⟨ok2,a2,b2⟩:=y
       have HR2:=Lib.hid hr2
       have HG2:=Lib.hid (grown_trans HG1.out hg2)
       clear hr2 hg2
       cases ok2 with
       | false =>
         dsimp only at hst
         rw [if_neg (by decide)] at hst
         have HST:=Lib.hid hst
         clear hst hz
         go_wp2_with fail
         go_ret2
         rw [HST.out]
         exact⟨rfl,HR2.out,HG2.out⟩
       | true =>
         have hb2:=hz rfl
         dsimp only at hb2
         subst hb2
         dsimp only at hst
         rw [if_pos rfl] at hst
         have HST:=Lib.hid hst
         clear hst hz
         have hw1:=conv_neg n1 hn1
         go_wp2_with fail
         go_ret2
         rw [HST.out]
         exact⟨by simp [hw1],HR2.out,HG2.out⟩
    ·have hi2:(s.size:Int)≤(A:Int):=by omega
     clear h3 hnx hx
     go_enter Tryz.func134,Tryz.ntmps134
     go_wp2_with fail
     go_quiet (fail)
     go_wp2_with fail
     have hR8:=Lib.hid (HR8.out nq)
     have hG8:Hid (w.grownBy ((w.drewN nq).setCell ⟨r,1,none⟩ (.int .i64 ((a:Int)+1))) (some r)):=Lib.hid (grown_trans (grown_drewN (World.grownBy.refl _ _) _) (grown_setCell _ _ _ _))
     clear c0 c1 f1 HR8
     generalize ((w.drewN nq).setCell ⟨r,1,none⟩ (.int .i64 ((a:Int)+1)))=w8 at *
     have d0:=hR8.out.c0
     have d1:=hR8.out.c1
     go_quiet (fail)
     go_wp2_with fail
     refine (digits_any r s (A) m 9223372036854775808 _ (hR8.out.drewN _) hs (by omega) (by decide) (by decide) _ (Lib.hid rfl)).mono ?_
     rintro e w1 ⟨rfl,hr1,hg1⟩
     have hst:=HT.out
     rw [numTail] at hst
     have hok:=digitsL_ok s 9223372036854775808 (A) (by decide) (s.size+1 - (A)) 0 (A) (Nat.le_refl _) (Nat.zero_le _)
     generalize digitsL s 9223372036854775808 (A) (s.size+1 - (A)) 0 (A)=x1 at *
     obtain⟨n1,ok1,a1,b1⟩:=x1
     have HR1:=Lib.hid hr1
     have HG1:=Lib.hid (grown_trans (grown_trans hG8.out (grown_drewN (World.grownBy.refl _ _) _)) hg1)
     clear hr1 hg1
     cases ok1 with
     | false =>
       dsimp only at hst
       rw [if_neg (by decide)] at hst
       have HST:=Lib.hid hst
       clear hst hok
       go_wp2_with fail
       go_ret2
       rw [HST.out]
       exact⟨rfl,HR1.out,HG1.out⟩
     | true =>
       obtain⟨hb1,hn1,ha1,ha2⟩:=hok rfl
       dsimp only at hb1 hn1 ha1 ha2
       omega
  ·have hb:((s[a].toNat:Int)==45)=false:=byte_ne h2
   have HT:Hid (x=numTail s 9223372036854775807 false a):=Lib.hid (by rw [hx.out,numberL,at_lt h1,if_neg (by simpa using h2)])
   clear h2 hx
   go_enter Tryz.func134,Tryz.ntmps134
   go_wp2_with fail
   go_quiet (fail)
   go_wp2_with fail
   refine (digits_any r s (a) m 9223372036854775807 _ (H.out.drewN _) hs ha (by decide) (by decide) _ (Lib.hid rfl)).mono ?_
   rintro e w1 ⟨rfl,hr1,hg1⟩
   have hst:=HT.out
   rw [numTail] at hst
   have hok:=digitsL_ok s 9223372036854775807 (a) (by decide) (s.size+1 - (a)) 0 (a) (Nat.le_refl _) (Nat.zero_le _)
   generalize digitsL s 9223372036854775807 (a) (s.size+1 - (a)) 0 (a)=x1 at *
   obtain⟨n1,ok1,a1,b1⟩:=x1
   have HR1:=Lib.hid hr1
   have HG1:=Lib.hid (grown_trans (grown_drewN (World.grownBy.refl _ _) _) hg1)
   clear hr1 hg1
   cases ok1 with
   | false =>
     dsimp only at hst
     rw [if_neg (by decide)] at hst
     have HST:=Lib.hid hst
     clear hst hok
     go_wp2_with fail
     go_ret2
     rw [HST.out]
     exact⟨rfl,HR1.out,HG1.out⟩
   | true =>
     obtain⟨hb1,hn1,ha1,ha2⟩:=hok rfl
     dsimp only at hb1 hn1 ha1 ha2
     subst hb1
     dsimp only at hst
     rw [if_pos rfl] at hst
     have HST0:=Lib.hid hst
     clear hst hok
     go_wp2_with fail
     refine (must_any r s a1 m 101 w1 HR1.out hs _ (Lib.hid rfl)).mono ?_
     rintro e w2 ⟨rfl,hr2,hg2⟩
     have hst:=HST0.out
     clear HST0
     have hz:=mustL_ok s a1 101
     generalize mustL s a1 101=y at *
     obtain⟨ok2,a2,b2⟩:=y
     have HR2:=Lib.hid hr2
     have HG2:=Lib.hid (grown_trans HG1.out hg2)
     clear hr2 hg2
     cases ok2 with
     | false =>
       dsimp only at hst
       rw [if_neg (by decide)] at hst
       have HST:=Lib.hid hst
       clear hst hz
       go_wp2_with fail
       go_ret2
       rw [HST.out]
       exact⟨rfl,HR2.out,HG2.out⟩
     | true =>
       have hb2:=hz rfl
       dsimp only at hb2
       subst hb2
       dsimp only at hst
       rw [if_pos rfl] at hst
       have HST:=Lib.hid hst
       clear hst hz
       have hw1:=conv_pos n1 hn1
       go_wp2_with fail
       go_ret2
       rw [HST.out]
       exact⟨by simp,HR2.out,HG2.out⟩
 ·have hi:(s.size:Int)≤(a:Int):=by omega
  have HT:Hid (x=numTail s 9223372036854775807 false a):=Lib.hid (by rw [hx.out,numberL,at_ge h1,if_neg (by simp)])
  clear hx
  go_enter Tryz.func134,Tryz.ntmps134
  go_wp2_with fail
  go_quiet (fail)
  go_wp2_with fail
  refine (digits_any r s (a) m 9223372036854775807 _ (H.out.drewN _) hs ha (by decide) (by decide) _ (Lib.hid rfl)).mono ?_
  rintro e w1 ⟨rfl,hr1,hg1⟩
  have hst:=HT.out
  rw [numTail] at hst
  have hok:=digitsL_ok s 9223372036854775807 (a) (by decide) (s.size+1 - (a)) 0 (a) (Nat.le_refl _) (Nat.zero_le _)
  generalize digitsL s 9223372036854775807 (a) (s.size+1 - (a)) 0 (a)=x1 at *
  obtain⟨n1,ok1,a1,b1⟩:=x1
  have HR1:=Lib.hid hr1
  have HG1:=Lib.hid (grown_trans (grown_drewN (World.grownBy.refl _ _) _) hg1)
  clear hr1 hg1
  cases ok1 with
  | false =>
    dsimp only at hst
    rw [if_neg (by decide)] at hst
    have HST:=Lib.hid hst
    clear hst hok
    go_wp2_with fail
    go_ret2
    rw [HST.out]
    exact⟨rfl,HR1.out,HG1.out⟩
  | true =>
    obtain⟨hb1,hn1,ha1,ha2⟩:=hok rfl
    dsimp only at hb1 hn1 ha1 ha2
    omega
end Go.Proofs.YtlpgbmaoenncjaaGreatDoor
namespace Go.Proofs.YtlpgbmaoenncjaaGreatDoor
open Go.RowKit
set_option linter.unusedVariables false
def zeroV:V:=.mk 0 0 ⟨#[]⟩ []
structure Rd where
 v:V
 ok:Bool
 at_:Nat
 many:Nat
 bad:Int
def Rd.no (at_ many:Nat) (bad:Int):Rd:=⟨zeroV,false,at_,many,bad⟩
def rdList (rd:Nat→Nat→Rd) (s:ByteArray):Nat→Nat→Nat→List V→Rd
 | 0,a,m,_=>Rd.no a m 10
 | f+1,a,m,acc=>if s.data.toList[a]? = some 101 then ⟨.mk 3 0 ⟨#[]⟩ acc,true,a+1,m,0⟩
   else if (rd a m).ok=true then rdList rd s f (rd a m).at_ (rd a m).many (acc++[(rd a m).v]) else Rd.no (rd a m).at_ (rd a m).many (rd a m).bad
def rdText (s:ByteArray) (a m:Nat):Rd :=
 if (digitsL s 131072 a (s.size+1 - a) 0 a).2.1=true then
  (if (mustL s (digitsL s 131072 a (s.size+1 - a) 0 a).2.2.1 58).1=true then
    (if s.size - (mustL s (digitsL s 131072 a (s.size+1 - a) 0 a).2.2.1 58).2.1<(digitsL s 131072 a (s.size+1 - a) 0 a).1 then Rd.no s.size m 10
     else ⟨.mk 2 0 (s.extract (mustL s (digitsL s 131072 a (s.size+1 - a) 0 a).2.2.1 58).2.1 ((mustL s (digitsL s 131072 a (s.size+1 - a) 0 a).2.2.1 58).2.1+(digitsL s 131072 a (s.size+1 - a) 0 a).1)) [],true,(mustL s (digitsL s 131072 a (s.size+1 - a) 0 a).2.2.1 58).2.1+(digitsL s 131072 a (s.size+1 - a) 0 a).1,m,0⟩)
   else Rd.no (mustL s (digitsL s 131072 a (s.size+1 - a) 0 a).2.2.1 58).2.1 m (mustL s (digitsL s 131072 a (s.size+1 - a) 0 a).2.2.1 58).2.2)
 else Rd.no (digitsL s 131072 a (s.size+1 - a) 0 a).2.2.1 m (digitsL s 131072 a (s.size+1 - a) 0 a).2.2.2
def rdNumber (s:ByteArray) (a m:Nat):Rd:=⟨.mk 1 (numberL s a).1 ⟨#[]⟩ [],(numberL s a).2.1,(numberL s a).2.2.1,m,(numberL s a).2.2.2⟩
def begins (c:UInt8):Bool:=c==105||c==108||(decide (48≤c.toNat)&&decide (c.toNat≤57))
def rdValue (s:ByteArray):Nat→Nat→Nat→Rd
 | 0,a,m=>match s.data.toList[a]? with
   | none=>Rd.no a m 10
   | some c=>if begins c then Rd.no a m 12 else Rd.no a m 11
 | d+1,a,m=>match s.data.toList[a]? with
   | none=>Rd.no a m 10
   | some c=>if begins c then (if 4000≤m then Rd.no a m 2
      else if c=105 then rdNumber s (a+1) (m+1)
      else if c=108 then rdList (rdValue s d) s (s.size+1 - (a+1)) (a+1) (m+1) []
      else rdText s a (m+1))
     else Rd.no a m 11
def Rd.Good (s:ByteArray) (a:Nat) (x:Rd):Prop:=x.ok=true→x.bad=0∧a<x.at_∧x.at_≤s.size∧x.many≤4000
theorem mustL_at (s:ByteArray) (a:Nat) (c:UInt8) (h:(mustL s a c).1=true):(mustL s a c).2.1=a+1∧a<s.size:=by
 unfold mustL at h ⊢
 split
 ·split
  ·rename_i h1 h2; exact⟨rfl,h1⟩
  ·rename_i h1 h2; rw [dif_pos h1,if_neg h2] at h; simp at h
 ·rename_i h1; rw [dif_neg h1] at h; simp at h
theorem rdText_good (s:ByteArray) (a m:Nat):(rdText s a m).ok=true→(rdText s a m).bad=0∧a<(rdText s a m).at_∧(rdText s a m).at_≤s.size∧(rdText s a m).many=m:=by
 intro h
 unfold rdText at h ⊢
 split
 ·rename_i h1
  obtain⟨-,-,h3,-⟩:=digitsL_ok s 131072 a (by decide) (s.size+1 - a) 0 a (Nat.le_refl _) (Nat.zero_le _) h1
  split
  ·rename_i h2
   obtain⟨h4,h5⟩:=mustL_at s _ _ h2
   split
   ·rename_i h6; rw [if_pos h1,if_pos h2,if_pos h6] at h; simp [Rd.no] at h
   ·rename_i h6; exact⟨rfl,by dsimp only; omega,by dsimp only; omega,rfl⟩
  ·rename_i h2; rw [if_pos h1,if_neg h2] at h; simp [Rd.no] at h
 ·rename_i h1; rw [if_neg h1] at h; simp [Rd.no] at h
theorem numTail_good (s:ByteArray) (most:Nat) (h9:9≤most) (mi:Bool) (a:Nat) (h:(numTail s most mi a).2.1=true):(numTail s most mi a).2.2.2=0∧a<(numTail s most mi a).2.2.1∧(numTail s most mi a).2.2.1≤s.size:=by
 unfold numTail at h ⊢
 by_cases h1:(digitsL s most a (s.size+1 - a) 0 a).2.1=true
 ·rw [if_pos h1] at h ⊢
  obtain⟨-,-,h3,-⟩:=digitsL_ok s most a h9 (s.size+1 - a) 0 a (Nat.le_refl _) (Nat.zero_le _) h1
  by_cases h2:(mustL s (digitsL s most a (s.size+1 - a) 0 a).2.2.1 101).1=true
  ·rw [if_pos h2] at h ⊢
   obtain⟨h4,h5⟩:=mustL_at s _ _ h2
   exact⟨rfl,by dsimp only; omega,by dsimp only; omega⟩
  ·rw [if_neg h2] at h; simp at h
 ·rw [if_neg h1] at h; simp at h
theorem numberL_good (s:ByteArray) (a:Nat) (h:(numberL s a).2.1=true):(numberL s a).2.2.2=0∧a<(numberL s a).2.2.1∧(numberL s a).2.2.1≤s.size:=by
 unfold numberL at h ⊢
 by_cases h1:s.data.toList[a]? = some 45
 ·rw [if_pos h1] at h ⊢
  by_cases h2:s.data.toList[a+1]? = some 48
  ·rw [if_pos h2] at h; simp at h
  ·rw [if_neg h2] at h ⊢
   obtain⟨h3,h4,h5⟩:=numTail_good s _ (by decide) _ _ h
   exact⟨h3,by omega,h5⟩
 ·rw [if_neg h1] at h ⊢
  exact numTail_good s _ (by decide) _ _ h
theorem at_some {s:ByteArray}{a:Nat}{c:UInt8}(h:s.data.toList[a]? = some c):a<s.size:=by
 have:=(List.getElem?_eq_some_iff.1 h).1; simpa using this
theorem rdList_good (rd:Nat→Nat→Rd) (s:ByteArray) (hrd:∀ a m,m≤4000→Rd.Good s a (rd a m)):∀ (f a m:Nat) (acc:List V),m≤4000→Rd.Good s a (rdList rd s f a m acc)
 | 0,a,m,acc,_=>by intro h; simp [rdList,Rd.no] at h
 | f+1,a,m,acc,hm=>by
   intro h
   rw [rdList] at h ⊢
   by_cases h1:s.data.toList[a]? = some 101
   ·rw [if_pos h1]
    have:=at_some h1
    exact⟨rfl,by dsimp only; omega,by dsimp only; omega,hm⟩
   ·rw [if_neg h1] at h ⊢
    by_cases h2:(rd a m).ok=true
    ·rw [if_pos h2] at h ⊢
     obtain⟨-,h4,h5,h6⟩:=hrd a m hm h2
     obtain⟨h7,h8,h9,h10⟩:=rdList_good rd s hrd f _ _ _ h6 h
     exact⟨h7,by omega,h9,h10⟩
    ·rw [if_neg h2] at h; simp [Rd.no] at h
theorem rdValue_good (s:ByteArray):∀ (d a m:Nat),m≤4000→Rd.Good s a (rdValue s d a m)
 | 0,a,m,_=>by
   intro h
   rw [rdValue] at h
   cases hc:s.data.toList[a]? with
   | none=>rw [hc] at h; simp [Rd.no] at h
   | some c=>rw [hc] at h; dsimp only at h; split at h <;> simp [Rd.no] at h
 | d+1,a,m,hm=>by
   intro h
   rw [rdValue] at h ⊢
   cases hc:s.data.toList[a]? with
   | none=>rw [hc] at h; simp [Rd.no] at h
   | some c =>
     rw [hc] at h
     dsimp only at h ⊢
     by_cases h1:begins c=true
     ·rw [if_pos h1] at h ⊢
      by_cases h2:4000≤m
      ·rw [if_pos h2] at h; simp [Rd.no] at h
      ·rw [if_neg h2] at h ⊢
       by_cases h3:c=105
       ·rw [if_pos h3] at h ⊢
        obtain⟨h4,h5,h6⟩:=numberL_good s (a+1) h
        exact⟨h4,by dsimp only [rdNumber]; omega,h6,by dsimp only [rdNumber]; omega⟩
       ·rw [if_neg h3] at h ⊢
        by_cases h4:c=108
        ·rw [if_pos h4] at h ⊢
         obtain⟨h5,h6,h7,h8⟩:=rdList_good _ s (rdValue_good s d) _ _ _ _ (by omega) h
         exact⟨h5,by omega,h7,h8⟩
        ·rw [if_neg h4] at h ⊢
         obtain⟨h5,h6,h7,h8⟩:=rdText_good s a (m+1) h
         exact⟨h5,h6,h7,by omega⟩
     ·rw [if_neg h1] at h; simp [Rd.no] at h
end Go.Proofs.YtlpgbmaoenncjaaGreatDoor

namespace Go.Proofs.YtlpgbmaoenncjaaGreatDoor
open Go.RowKit
set_option linter.unusedVariables false
def ValPost (r:Nat) (s:ByteArray) (w:World) (x:Rd) (e:Ending) (w':World):Prop :=
 ∃ cs:List Value,e = .returned (.tuple #[.agg cs.toArray,.bool x.ok])∧V.At w' (fun b=>w.heap.size≤b∧b<w'.heap.size) x.v cs∧RdAt w' r s (x.at_:Int) (x.many:Int) x.bad∧w.grownBy w' (some r)
theorem grown_fresh {w w1 w2:World}{row:Option Nat}{b:Nat}(h:w.grownBy w1 row) (k:w1.grownBy w2 (some b)) (hb:w.heap.size≤b):w.grownBy w2 row :=
 ⟨k.os.trans h.os,k.tape.trans h.tape,k.output.trans h.output,Nat.le_trans h.size k.size,fun i hi hr=>(k.block i (Nat.lt_of_lt_of_le hi h.size) (by simp; omega)).trans (h.block i hi hr)⟩
theorem zeroV_at (w:World) (S:Nat→Prop):V.At w S zeroV [.int .i64 0,.int .i64 0,.string ⟨#[]⟩,.slice none 0 0]:=by
 simp only [zeroV,V.At]
 exact⟨none,0,rfl,Nat.le_refl _,fun _=>rfl,by simp only [VAll]⟩
set_option maxRecDepth 20000 in
set_option maxHeartbeats 4000000 in
theorem value_end (r:Nat) (s:ByteArray) (k:Int) (a m:Nat) (w:World) (h:RdAt w r s a m 0) (hs:s.size≤131072) (h1:¬ a<s.size) :
 Calls Tryz.prog 92 #[.pointer (some ⟨r,0,none⟩),.int .i64 k] w (ValPost r s w (Rd.no a m 10)):=by
 have H:=Lib.hid h
 have h2:=h.alloc (.cells #[.int .i64 0,.int .i64 0,.string ⟨#[]⟩,.slice none 0 0] 70)
 have c0:=h2.c0
 have c1:=h2.c1
 have hi:(s.size:Int)≤(a:Int):=by omega
 clear h h2
 go_enter Tryz.func92,Tryz.ntmps92
 go_wp2_with fail
 go_quiet (fail)
 go_wp2_with fail
 refine (fail_any r s a m 10 _ ((H.out.alloc _).drewN _)).mono ?_
 rintro e w1 ⟨rfl,hr1,hg1⟩
 have HF:Hid (Four w1 w.heap.size 70 (.int .i64 0) (.int .i64 0) (.string ⟨#[]⟩) (.slice none 0 0)):=Lib.hid (((Four.new w _ _ _ _ _).drewN _).kept hg1 (by have:=H.out.lt; simp; omega))
 have HR:=Lib.hid hr1
 have HG:Hid (w.grownBy w1 (some r)):=Lib.hid (grown_trans (World.grownBy_alloc w _ _) (grown_drew_l hg1))
 have b0:=HF.out.c0
 have b1:=HF.out.c1
 have b2:=HF.out.c2
 have b3:=HF.out.c3
 have g0:=HF.out.free 0
 have g1:=HF.out.free 1
 have g2:=HF.out.free 2
 have g3:=HF.out.free 3
 clear hr1 hg1
 go_wp2_with fail
 have HF2:=HF.out.all (.int .i64 0) (.int .i64 0) (.string ⟨#[]⟩) (.slice none 0 0)
 have hgf:=grown_four w1 w.heap.size (.int .i64 0) (.int .i64 0) (.string ⟨#[]⟩) (.slice none 0 0)
 clear b0 b1 b2 b3 g0 g1 g2 g3
 generalize ((((w1.setCell ⟨w.heap.size,0,none⟩ (.int .i64 0)).setCell ⟨w.heap.size,1,none⟩ (.int .i64 0)).setCell ⟨w.heap.size,2,none⟩ (.string ⟨#[]⟩)).setCell ⟨w.heap.size,3,none⟩ (.slice none 0 0))=w2 at *
 have e0:=HF2.c0
 have e1:=HF2.c1
 have e2:=HF2.c2
 have e3:=HF2.c3
 (try simp only [Exit.inBlock,Exit.then])
 refine bodyPost_ret (v:=.tuple #[.agg #[.int .i64 0,.int .i64 0,.string ⟨#[]⟩,.slice none 0 0],.bool false]) ?_ rfl ?_
 ·rw [results_cell_tmp rfl]; go_simp
 ·exact⟨_,rfl,zeroV_at _ _,HR.out.kept hgf (by have:=H.out.lt; simp; omega),grown_fresh HG.out hgf (Nat.le_refl _)⟩
set_option maxRecDepth 20000 in
set_option maxHeartbeats 4000000 in
theorem value_byte (r:Nat) (s:ByteArray) (k:Int) (a m:Nat) (w:World) (h:RdAt w r s a m 0) (hs:s.size≤131072) (h1:a<s.size) (hb:begins s[a]=false) :
 Calls Tryz.prog 92 #[.pointer (some ⟨r,0,none⟩),.int .i64 k] w (ValPost r s w (Rd.no a m 11)):=by
 have H:=Lib.hid h
 have h2:=h.alloc (.cells #[.int .i64 0,.int .i64 0,.string ⟨#[]⟩,.slice none 0 0] 70)
 have c0:=h2.c0
 have c1:=h2.c1
 have hi:(a:Int)<(s.size:Int):=by omega
 unfold begins at hb
 simp only [Bool.or_eq_false_iff,Bool.and_eq_false_iff,decide_eq_false_iff_not,beq_eq_false_iff_ne] at hb
 obtain⟨⟨hb1,hb2⟩,hb3⟩:=hb
 have q1:((s[a].toNat:Int) != 105)=true:=by rw [bne_iff_ne]; intro e; exact hb1 (UInt8.toNat_inj.1 (by show s[a].toNat=105; omega))
 have q2:((s[a].toNat:Int) != 108)=true:=by rw [bne_iff_ne]; intro e; exact hb2 (UInt8.toNat_inj.1 (by show s[a].toNat=108; omega))
 have q3:(s[a].toNat:Int)<48∨((48:Int)≤(s[a].toNat:Int)∧(57:Int)<(s[a].toNat:Int)):=by omega
 clear h h2 hb1 hb2 hb3
 rcases q3 with q3 | ⟨q3,q4⟩
 all_goals
  go_enter Tryz.func92,Tryz.ntmps92
  go_wp2_with fail
  go_quiet (fail)
  go_wp2_with fail
  go_quiet (fail)
  go_wp2_with fail
  refine (fail_any r s a m 11 _ ((H.out.alloc _).drewN _)).mono ?_
  rintro e w1 ⟨rfl,hr1,hg1⟩
  have HF:Hid (Four w1 w.heap.size 70 (.int .i64 0) (.int .i64 0) (.string ⟨#[]⟩) (.slice none 0 0)):=Lib.hid (((Four.new w _ _ _ _ _).drewN _).kept hg1 (by have:=H.out.lt; simp; omega))
  have HR:=Lib.hid hr1
  have HG:Hid (w.grownBy w1 (some r)):=Lib.hid (grown_trans (World.grownBy_alloc w _ _) (grown_drew_l hg1))
  have b0:=HF.out.c0
  have b1:=HF.out.c1
  have b2:=HF.out.c2
  have b3:=HF.out.c3
  have g0:=HF.out.free 0
  have g1:=HF.out.free 1
  have g2:=HF.out.free 2
  have g3:=HF.out.free 3
  clear hr1 hg1
  go_wp2_with fail
  have HF2:=HF.out.all (.int .i64 0) (.int .i64 0) (.string ⟨#[]⟩) (.slice none 0 0)
  have hgf:=grown_four w1 w.heap.size (.int .i64 0) (.int .i64 0) (.string ⟨#[]⟩) (.slice none 0 0)
  clear b0 b1 b2 b3 g0 g1 g2 g3
  generalize ((((w1.setCell ⟨w.heap.size,0,none⟩ (.int .i64 0)).setCell ⟨w.heap.size,1,none⟩ (.int .i64 0)).setCell ⟨w.heap.size,2,none⟩ (.string ⟨#[]⟩)).setCell ⟨w.heap.size,3,none⟩ (.slice none 0 0))=w2 at *
  have e0:=HF2.c0
  have e1:=HF2.c1
  have e2:=HF2.c2
  have e3:=HF2.c3
  (try simp only [Exit.inBlock,Exit.then])
  refine bodyPost_ret (v:=.tuple #[.agg #[.int .i64 0,.int .i64 0,.string ⟨#[]⟩,.slice none 0 0],.bool false]) ?_ rfl ?_
  ·rw [results_cell_tmp rfl]; go_simp
  ·exact⟨_,rfl,zeroV_at _ _,HR.out.kept hgf (by have:=H.out.lt; simp; omega),grown_fresh HG.out hgf (Nat.le_refl _)⟩
theorem begins_ways {c:UInt8}(h:begins c=true):(((c.toNat:Int) != 105)=false)∨(((c.toNat:Int) != 105)=true∧((c.toNat:Int) != 108)=false)∨(((c.toNat:Int) != 105)=true∧((c.toNat:Int) != 108)=true∧(48:Int)≤(c.toNat:Int)∧(c.toNat:Int)≤57):=by
 unfold begins at h
 simp only [Bool.or_eq_true,Bool.and_eq_true,decide_eq_true_eq,beq_iff_eq] at h
 rcases h with (rfl | rfl) | ⟨h1,h2⟩
 ·exact .inl (by decide)
 ·exact .inr (.inl ⟨by decide,by decide⟩)
 ·exact .inr (.inr ⟨by rw [bne_iff_ne]; omega,by rw [bne_iff_ne]; omega,by omega,by omega⟩)
set_option maxRecDepth 20000 in
set_option maxHeartbeats 4000000 in
theorem value_deep (r:Nat) (s:ByteArray) (k:Int) (a m:Nat) (w:World) (h:RdAt w r s a m 0) (hs:s.size≤131072) (h1:a<s.size) (hb:begins s[a]=true) (hk:30≤k) :
 Calls Tryz.prog 92 #[.pointer (some ⟨r,0,none⟩),.int .i64 k] w (ValPost r s w (Rd.no a m 12)):=by
 have H:=Lib.hid h
 have h2:=h.alloc (.cells #[.int .i64 0,.int .i64 0,.string ⟨#[]⟩,.slice none 0 0] 70)
 have c0:=h2.c0
 have c1:=h2.c1
 have hi:(a:Int)<(s.size:Int):=by omega
 have q:=begins_ways hb
 clear h h2 hb
 rcases q with q1 | ⟨q1,q2⟩ | ⟨q1,q2,q3,q4⟩
 all_goals
  go_enter Tryz.func92,Tryz.ntmps92
  go_wp2_with fail
  go_quiet (fail)
  go_wp2_with fail
  go_quiet (fail)
  go_wp2_with fail
  refine (fail_any r s a m 12 _ ((H.out.alloc _).drewN _)).mono ?_
  rintro e w1 ⟨rfl,hr1,hg1⟩
  have HF:Hid (Four w1 w.heap.size 70 (.int .i64 0) (.int .i64 0) (.string ⟨#[]⟩) (.slice none 0 0)):=Lib.hid (((Four.new w _ _ _ _ _).drewN _).kept hg1 (by have:=H.out.lt; simp; omega))
  have HR:=Lib.hid hr1
  have HG:Hid (w.grownBy w1 (some r)):=Lib.hid (grown_trans (World.grownBy_alloc w _ _) (grown_drew_l hg1))
  have b0:=HF.out.c0
  have b1:=HF.out.c1
  have b2:=HF.out.c2
  have b3:=HF.out.c3
  have g0:=HF.out.free 0
  have g1:=HF.out.free 1
  have g2:=HF.out.free 2
  have g3:=HF.out.free 3
  clear hr1 hg1
  go_wp2_with fail
  have HF2:=HF.out.all (.int .i64 0) (.int .i64 0) (.string ⟨#[]⟩) (.slice none 0 0)
  have hgf:=grown_four w1 w.heap.size (.int .i64 0) (.int .i64 0) (.string ⟨#[]⟩) (.slice none 0 0)
  clear b0 b1 b2 b3 g0 g1 g2 g3
  generalize ((((w1.setCell ⟨w.heap.size,0,none⟩ (.int .i64 0)).setCell ⟨w.heap.size,1,none⟩ (.int .i64 0)).setCell ⟨w.heap.size,2,none⟩ (.string ⟨#[]⟩)).setCell ⟨w.heap.size,3,none⟩ (.slice none 0 0))=w2 at *
  have e0:=HF2.c0
  have e1:=HF2.c1
  have e2:=HF2.c2
  have e3:=HF2.c3
  (try simp only [Exit.inBlock,Exit.then])
  refine bodyPost_ret (v:=.tuple #[.agg #[.int .i64 0,.int .i64 0,.string ⟨#[]⟩,.slice none 0 0],.bool false]) ?_ rfl ?_
  ·rw [results_cell_tmp rfl]; go_simp
  ·exact⟨_,rfl,zeroV_at _ _,HR.out.kept hgf (by have:=H.out.lt; simp; omega),grown_fresh HG.out hgf (Nat.le_refl _)⟩
set_option maxRecDepth 20000 in
set_option maxHeartbeats 4000000 in
theorem value_long (r:Nat) (s:ByteArray) (k:Int) (a m:Nat) (w:World) (h:RdAt w r s a m 0) (hs:s.size≤131072) (h1:a<s.size) (hb:begins s[a]=true) (hk:k<30) (hm:4000≤m) :
 Calls Tryz.prog 92 #[.pointer (some ⟨r,0,none⟩),.int .i64 k] w (ValPost r s w (Rd.no a m 2)):=by
 have H:=Lib.hid h
 have h2:=h.alloc (.cells #[.int .i64 0,.int .i64 0,.string ⟨#[]⟩,.slice none 0 0] 70)
 have c0:=h2.c0
 have c1:=h2.c1
 have c2:=h2.c2
 have hmi:(4000:Int)≤(m:Int):=by omega
 have hi:(a:Int)<(s.size:Int):=by omega
 have q:=begins_ways hb
 clear h h2 hb
 rcases q with q1 | ⟨q1,q2⟩ | ⟨q1,q2,q3,q4⟩
 all_goals
  go_enter Tryz.func92,Tryz.ntmps92
  go_wp2_with fail
  go_quiet (fail)
  go_wp2_with fail
  go_quiet (fail)
  go_wp2_with fail
  refine (fail_any r s a m 2 _ ((H.out.alloc _).drewN _)).mono ?_
  rintro e w1 ⟨rfl,hr1,hg1⟩
  have HF:Hid (Four w1 w.heap.size 70 (.int .i64 0) (.int .i64 0) (.string ⟨#[]⟩) (.slice none 0 0)):=Lib.hid (((Four.new w _ _ _ _ _).drewN _).kept hg1 (by have:=H.out.lt; simp; omega))
  have HR:=Lib.hid hr1
  have HG:Hid (w.grownBy w1 (some r)):=Lib.hid (grown_trans (World.grownBy_alloc w _ _) (grown_drew_l hg1))
  have b0:=HF.out.c0
  have b1:=HF.out.c1
  have b2:=HF.out.c2
  have b3:=HF.out.c3
  have g0:=HF.out.free 0
  have g1:=HF.out.free 1
  have g2:=HF.out.free 2
  have g3:=HF.out.free 3
  clear hr1 hg1
  go_wp2_with fail
  have HF2:=HF.out.all (.int .i64 0) (.int .i64 0) (.string ⟨#[]⟩) (.slice none 0 0)
  have hgf:=grown_four w1 w.heap.size (.int .i64 0) (.int .i64 0) (.string ⟨#[]⟩) (.slice none 0 0)
  clear b0 b1 b2 b3 g0 g1 g2 g3
  generalize ((((w1.setCell ⟨w.heap.size,0,none⟩ (.int .i64 0)).setCell ⟨w.heap.size,1,none⟩ (.int .i64 0)).setCell ⟨w.heap.size,2,none⟩ (.string ⟨#[]⟩)).setCell ⟨w.heap.size,3,none⟩ (.slice none 0 0))=w2 at *
  have e0:=HF2.c0
  have e1:=HF2.c1
  have e2:=HF2.c2
  have e3:=HF2.c3
  (try simp only [Exit.inBlock,Exit.then])
  refine bodyPost_ret (v:=.tuple #[.agg #[.int .i64 0,.int .i64 0,.string ⟨#[]⟩,.slice none 0 0],.bool false]) ?_ rfl ?_
  ·rw [results_cell_tmp rfl]; go_simp
  ·exact⟨_,rfl,zeroV_at _ _,HR.out.kept hgf (by have:=H.out.lt; simp; omega),grown_fresh HG.out hgf (Nat.le_refl _)⟩
end Go.Proofs.YtlpgbmaoenncjaaGreatDoor
namespace Go.Proofs.YtlpgbmaoenncjaaGreatDoor
open Go.RowKit
set_option linter.unusedVariables false
theorem numV_at (w:World) (S:Nat→Prop) (n:Int):V.At w S (.mk 1 n ⟨#[]⟩ []) [.int .i64 1,.int .i64 n,.string ⟨#[]⟩,.slice none 0 0]:=by
 simp only [V.At]
 exact⟨none,0,rfl,Nat.le_refl _,fun _=>rfl,by simp only [VAll]⟩
set_option maxRecDepth 20000 in
set_option maxHeartbeats 4000000 in
theorem value_number_x (r:Nat) (s:ByteArray) (k:Int) (a m:Nat) (w:World) (h:RdAt w r s a m 0) (hs:s.size≤131072) (h1:a<s.size) (hb:s[a]=105) (hk:k<30) (hm:m<4000) (x1:Int) (x2:Bool) (x3:Nat) (x4:Int) (hx:Hid ((x1,x2,x3,x4)=numberL s (a+1))) :
 Calls Tryz.prog 92 #[.pointer (some ⟨r,0,none⟩),.int .i64 k] w (ValPost r s w ⟨.mk 1 x1 ⟨#[]⟩ [],x2,x3,m+1,x4⟩):=by
 have H:=Lib.hid h
 have h2:=h.alloc (.cells #[.int .i64 0,.int .i64 0,.string ⟨#[]⟩,.slice none 0 0] 70)
 have c0:=h2.c0
 have c1:=h2.c1
 have c2:=h2.c2
 have f1:=h2.free 1 (by decide)
 have f2:=h2.free 2 (by decide)
 have hmi:(m:Int)<4000:=by omega
 have hi:(a:Int)<(s.size:Int):=by omega
 have q1:((s[a].toNat:Int) != 105)=false:=by rw [hb]; rfl
 have q2:((s[a].toNat:Int)==105)=true:=by rw [hb]; rfl
 clear h h2 hb
 go_enter Tryz.func92,Tryz.ntmps92
 go_wp2_with fail
 go_quiet (fail)
 go_wp2_with fail
 go_quiet (fail)
 go_wp2_with fail
 refine (number_any r s (a+1) ((m+1:Nat):Int) _ ?hr ?hs ?ha _ hx).mono ?_
 case hs=>unfold maxLen; omega
 case ha=>omega
 case hr=>exact (((H.out.alloc _).drewN _).setMany _).setAt _
 rintro e w1 ⟨rfl,hr1,hg1⟩
 have HF:Hid (Four w1 w.heap.size 70 (.int .i64 0) (.int .i64 0) (.string ⟨#[]⟩) (.slice none 0 0)):=Lib.hid (((Four.new w _ _ _ _ _).drewN _).kept (grown_trans (grown_trans (grown_setCell _ _ _ _) (grown_setCell _ _ _ _)) hg1) (by have:=H.out.lt; simp; omega))
 have HR:=Lib.hid hr1
 have HG:Hid (w.grownBy w1 (some r)):=Lib.hid (grown_trans (World.grownBy_alloc w _ _) (grown_drew_l (grown_trans (grown_trans (grown_setCell _ _ _ _) (grown_setCell _ _ _ _)) hg1)))
 have b0:=HF.out.c0
 have b1:=HF.out.c1
 have b2:=HF.out.c2
 have b3:=HF.out.c3
 have g0:=HF.out.free 0
 have g1:=HF.out.free 1
 have g2:=HF.out.free 2
 have g3:=HF.out.free 3
 clear hr1 hg1
 go_wp2_with fail
 have HF2:=HF.out.all (.int .i64 1) (.int .i64 x1) (.string ⟨#[]⟩) (.slice none 0 0)
 have hgf:=grown_four w1 w.heap.size (.int .i64 1) (.int .i64 x1) (.string ⟨#[]⟩) (.slice none 0 0)
 clear b0 b1 b2 b3 g0 g1 g2 g3
 generalize ((((w1.setCell ⟨w.heap.size,0,none⟩ (.int .i64 1)).setCell ⟨w.heap.size,1,none⟩ (.int .i64 x1)).setCell ⟨w.heap.size,2,none⟩ (.string ⟨#[]⟩)).setCell ⟨w.heap.size,3,none⟩ (.slice none 0 0))=w2 at *
 have e0:=HF2.c0
 have e1:=HF2.c1
 have e2:=HF2.c2
 have e3:=HF2.c3
 (try simp only [Exit.inBlock,Exit.then])
 refine bodyPost_ret (v:=.tuple #[.agg #[.int .i64 1,.int .i64 x1,.string ⟨#[]⟩,.slice none 0 0],.bool x2]) ?_ rfl ?_
 ·rw [results_cell_tmp rfl]; go_simp
 ·exact⟨_,rfl,numV_at _ _ _,HR.out.kept hgf (by have:=H.out.lt; simp; omega),grown_fresh HG.out hgf (Nat.le_refl _)⟩
theorem value_number (r:Nat) (s:ByteArray) (k:Int) (a m:Nat) (w:World) (h:RdAt w r s a m 0) (hs:s.size≤131072) (h1:a<s.size) (hb:s[a]=105) (hk:k<30) (hm:m<4000) :
 Calls Tryz.prog 92 #[.pointer (some ⟨r,0,none⟩),.int .i64 k] w (ValPost r s w (rdNumber s (a+1) (m+1))) :=
 value_number_x r s k a m w h hs h1 hb hk hm _ _ _ _ (Lib.hid rfl)
end Go.Proofs.YtlpgbmaoenncjaaGreatDoor
namespace Go.Proofs.YtlpgbmaoenncjaaGreatDoor
open Go.RowKit
set_option linter.unusedVariables false
theorem textV_at (w:World) (S:Nat→Prop) (t:ByteArray):V.At w S (.mk 2 0 t []) [.int .i64 2,.int .i64 0,.string t,.slice none 0 0]:=by
 simp only [V.At]
 exact⟨none,0,rfl,Nat.le_refl _,fun _=>rfl,by simp only [VAll]⟩
set_option maxRecDepth 20000 in
set_option maxHeartbeats 4000000 in
theorem value_text_a (r:Nat) (s:ByteArray) (k:Int) (a m:Nat) (w:World) (h:RdAt w r s a m 0) (hs:s.size≤131072) (h1:a<s.size) (hb:48≤s[a].toNat∧s[a].toNat≤57) (hk:k<30) (hm:m<4000)
 (x1 x3:Nat) (x4:Int) (hx:Hid ((x1,false,x3,x4)=digitsL s 131072 a (s.size+1 - a) 0 a)) :
 Calls Tryz.prog 92 #[.pointer (some ⟨r,0,none⟩),.int .i64 k] w (ValPost r s w (Rd.no x3 (m+1) x4)):=by
 have H:=Lib.hid h
 have h2:=h.alloc (.cells #[.int .i64 0,.int .i64 0,.string ⟨#[]⟩,.slice none 0 0] 70)
 have c0:=h2.c0
 have c1:=h2.c1
 have c2:=h2.c2
 have f1:=h2.free 1 (by decide)
 have f2:=h2.free 2 (by decide)
 have hmi:(m:Int)<4000:=by omega
 have hi:(a:Int)<(s.size:Int):=by omega
 have q1:((s[a].toNat:Int) != 105)=true:=by rw [bne_iff_ne]; omega
 have q2:((s[a].toNat:Int) != 108)=true:=by rw [bne_iff_ne]; omega
 have q3:((s[a].toNat:Int)==105)=false:=by rw [beq_eq_false_iff_ne]; omega
 have q4:((s[a].toNat:Int)==108)=false:=by rw [beq_eq_false_iff_ne]; omega
 have q5:(48:Int)≤(s[a].toNat:Int):=by omega
 have q6:(s[a].toNat:Int)≤57:=by omega
 clear h h2 hb
 go_enter Tryz.func92,Tryz.ntmps92
 go_wp2_with fail
 go_quiet (fail)
 go_wp2_with fail
 go_quiet (fail)
 go_wp2_with fail
 refine (digits_any r s a ((m+1:Nat):Int) 131072 _ (((H.out.alloc _).drewN _).setMany _) (by unfold maxLen; omega) (by omega) (by decide) (by decide) _ hx).mono ?_
 rintro e w1 ⟨rfl,hr1,hg1⟩
 have HF1:Hid (Four w1 w.heap.size 70 (.int .i64 0) (.int .i64 0) (.string ⟨#[]⟩) (.slice none 0 0)):=Lib.hid (((Four.new w _ _ _ _ _).drewN _).kept (grown_trans (grown_setCell _ _ _ _) hg1) (by have:=H.out.lt; simp; omega))
 have HR1:=Lib.hid hr1
 have HG1:Hid (w.grownBy w1 (some r)):=Lib.hid (grown_trans (World.grownBy_alloc w _ _) (grown_drew_l (grown_trans (grown_setCell _ _ _ _) hg1)))
 clear hr1 hg1 c0 c1 c2 f1 f2
 have HF:=HF1
 have HR:=HR1
 have HG:=HG1
 clear HF1 HR1 HG1
 have b0:=HF.out.c0
 have b1:=HF.out.c1
 have b2:=HF.out.c2
 have b3:=HF.out.c3
 have g0:=HF.out.free 0
 have g1:=HF.out.free 1
 have g2:=HF.out.free 2
 have g3:=HF.out.free 3
 go_wp2_with fail
 generalize w1=w9 at *
 have HF2:=HF.out.all (.int .i64 0) (.int .i64 0) (.string ⟨#[]⟩) (.slice none 0 0)
 have hgf:=grown_four w9 w.heap.size (.int .i64 0) (.int .i64 0) (.string ⟨#[]⟩) (.slice none 0 0)
 clear b0 b1 b2 b3 g0 g1 g2 g3
 generalize ((((w9.setCell ⟨w.heap.size,0,none⟩ (.int .i64 0)).setCell ⟨w.heap.size,1,none⟩ (.int .i64 0)).setCell ⟨w.heap.size,2,none⟩ (.string ⟨#[]⟩)).setCell ⟨w.heap.size,3,none⟩ (.slice none 0 0))=w10 at *
 have e0:=HF2.c0
 have e1:=HF2.c1
 have e2:=HF2.c2
 have e3:=HF2.c3
 (try simp only [Exit.inBlock,Exit.then])
 refine bodyPost_ret (v:=.tuple #[.agg #[.int .i64 0,.int .i64 0,.string ⟨#[]⟩,.slice none 0 0],.bool false]) ?_ rfl ?_
 ·rw [results_cell_tmp rfl]; go_simp
 ·exact⟨_,rfl,zeroV_at _ _,HR.out.kept hgf (by have:=H.out.lt; simp; omega),grown_fresh HG.out hgf (Nat.le_refl _)⟩
set_option maxRecDepth 20000 in
set_option maxHeartbeats 4000000 in
theorem value_text_b (r:Nat) (s:ByteArray) (k:Int) (a m:Nat) (w:World) (h:RdAt w r s a m 0) (hs:s.size≤131072) (h1:a<s.size) (hb:48≤s[a].toNat∧s[a].toNat≤57) (hk:k<30) (hm:m<4000)
 (x1 x3:Nat) (hx:Hid ((x1,true,x3,(0:Int))=digitsL s 131072 a (s.size+1 - a) 0 a)) (y2:Nat) (y3:Int) (hy:Hid ((false,y2,y3)=mustL s x3 58)) :
 Calls Tryz.prog 92 #[.pointer (some ⟨r,0,none⟩),.int .i64 k] w (ValPost r s w (Rd.no y2 (m+1) y3)):=by
 have H:=Lib.hid h
 have h2:=h.alloc (.cells #[.int .i64 0,.int .i64 0,.string ⟨#[]⟩,.slice none 0 0] 70)
 have c0:=h2.c0
 have c1:=h2.c1
 have c2:=h2.c2
 have f1:=h2.free 1 (by decide)
 have f2:=h2.free 2 (by decide)
 have hmi:(m:Int)<4000:=by omega
 have hi:(a:Int)<(s.size:Int):=by omega
 have q1:((s[a].toNat:Int) != 105)=true:=by rw [bne_iff_ne]; omega
 have q2:((s[a].toNat:Int) != 108)=true:=by rw [bne_iff_ne]; omega
 have q3:((s[a].toNat:Int)==105)=false:=by rw [beq_eq_false_iff_ne]; omega
 have q4:((s[a].toNat:Int)==108)=false:=by rw [beq_eq_false_iff_ne]; omega
 have q5:(48:Int)≤(s[a].toNat:Int):=by omega
 have q6:(s[a].toNat:Int)≤57:=by omega
 clear h h2 hb
 go_enter Tryz.func92,Tryz.ntmps92
 go_wp2_with fail
 go_quiet (fail)
 go_wp2_with fail
 go_quiet (fail)
 go_wp2_with fail
 refine (digits_any r s a ((m+1:Nat):Int) 131072 _ (((H.out.alloc _).drewN _).setMany _) (by unfold maxLen; omega) (by omega) (by decide) (by decide) _ hx).mono ?_
 rintro e w1 ⟨rfl,hr1,hg1⟩
 have HF1:Hid (Four w1 w.heap.size 70 (.int .i64 0) (.int .i64 0) (.string ⟨#[]⟩) (.slice none 0 0)):=Lib.hid (((Four.new w _ _ _ _ _).drewN _).kept (grown_trans (grown_setCell _ _ _ _) hg1) (by have:=H.out.lt; simp; omega))
 have HR1:=Lib.hid hr1
 have HG1:Hid (w.grownBy w1 (some r)):=Lib.hid (grown_trans (World.grownBy_alloc w _ _) (grown_drew_l (grown_trans (grown_setCell _ _ _ _) hg1)))
 clear hr1 hg1 c0 c1 c2 f1 f2
 have hmust:=must_any r s x3 ((m+1:Nat):Int) 58 w1 HR1.out (by unfold maxLen; omega) _ hy
 go_wp2_with fail
 refine hmust.mono ?_
 clear hmust
 rintro e w9 ⟨rfl,hr1,hg1⟩
 have HF:Hid (Four w9 w.heap.size 70 (.int .i64 0) (.int .i64 0) (.string ⟨#[]⟩) (.slice none 0 0)):=Lib.hid (HF1.out.kept hg1 (by have:=H.out.lt; simp; omega))
 have HR:=Lib.hid hr1
 have HG:Hid (w.grownBy w9 (some r)):=Lib.hid (grown_trans HG1.out hg1)
 clear hr1 hg1 HF1 HR1 HG1
 have b0:=HF.out.c0
 have b1:=HF.out.c1
 have b2:=HF.out.c2
 have b3:=HF.out.c3
 have g0:=HF.out.free 0
 have g1:=HF.out.free 1
 have g2:=HF.out.free 2
 have g3:=HF.out.free 3
 go_wp2_with fail
 have HF2:=HF.out.all (.int .i64 0) (.int .i64 0) (.string ⟨#[]⟩) (.slice none 0 0)
 have hgf:=grown_four w9 w.heap.size (.int .i64 0) (.int .i64 0) (.string ⟨#[]⟩) (.slice none 0 0)
 clear b0 b1 b2 b3 g0 g1 g2 g3
 generalize ((((w9.setCell ⟨w.heap.size,0,none⟩ (.int .i64 0)).setCell ⟨w.heap.size,1,none⟩ (.int .i64 0)).setCell ⟨w.heap.size,2,none⟩ (.string ⟨#[]⟩)).setCell ⟨w.heap.size,3,none⟩ (.slice none 0 0))=w10 at *
 have e0:=HF2.c0
 have e1:=HF2.c1
 have e2:=HF2.c2
 have e3:=HF2.c3
 (try simp only [Exit.inBlock,Exit.then])
 refine bodyPost_ret (v:=.tuple #[.agg #[.int .i64 0,.int .i64 0,.string ⟨#[]⟩,.slice none 0 0],.bool false]) ?_ rfl ?_
 ·rw [results_cell_tmp rfl]; go_simp
 ·exact⟨_,rfl,zeroV_at _ _,HR.out.kept hgf (by have:=H.out.lt; simp; omega),grown_fresh HG.out hgf (Nat.le_refl _)⟩
set_option maxRecDepth 20000 in
set_option maxHeartbeats 4000000 in
theorem value_text_c (r:Nat) (s:ByteArray) (k:Int) (a m:Nat) (w:World) (h:RdAt w r s a m 0) (hs:s.size≤131072) (h1:a<s.size) (hb:48≤s[a].toNat∧s[a].toNat≤57) (hk:k<30) (hm:m<4000)
 (x1 x3:Nat) (hx:Hid ((x1,true,x3,(0:Int))=digitsL s 131072 a (s.size+1 - a) 0 a)) (y2:Nat) (hy:Hid ((true,y2,(0:Int))=mustL s x3 58)) (hy2:y2≤s.size) (hx1:x1≤131072) (hn:s.size - y2<x1) :
 Calls Tryz.prog 92 #[.pointer (some ⟨r,0,none⟩),.int .i64 k] w (ValPost r s w (Rd.no s.size (m+1) 10)):=by
 have H:=Lib.hid h
 have h2:=h.alloc (.cells #[.int .i64 0,.int .i64 0,.string ⟨#[]⟩,.slice none 0 0] 70)
 have c0:=h2.c0
 have c1:=h2.c1
 have c2:=h2.c2
 have f1:=h2.free 1 (by decide)
 have f2:=h2.free 2 (by decide)
 have hmi:(m:Int)<4000:=by omega
 have hi:(a:Int)<(s.size:Int):=by omega
 have q1:((s[a].toNat:Int) != 105)=true:=by rw [bne_iff_ne]; omega
 have q2:((s[a].toNat:Int) != 108)=true:=by rw [bne_iff_ne]; omega
 have q3:((s[a].toNat:Int)==105)=false:=by rw [beq_eq_false_iff_ne]; omega
 have q4:((s[a].toNat:Int)==108)=false:=by rw [beq_eq_false_iff_ne]; omega
 have q5:(48:Int)≤(s[a].toNat:Int):=by omega
 have q6:(s[a].toNat:Int)≤57:=by omega
 have q7:(s.size:Int) - (y2:Int)<(x1:Int):=by omega
 have q8:(y2:Int)≤(s.size:Int):=by omega
 have q9:(x1:Int)≤131072:=by omega
 have q10:(s.size:Int)≤131072:=by omega
 clear h h2 hb
 go_enter Tryz.func92,Tryz.ntmps92
 go_wp2_with fail
 go_quiet (fail)
 go_wp2_with fail
 go_quiet (fail)
 go_wp2_with fail
 refine (digits_any r s a ((m+1:Nat):Int) 131072 _ (((H.out.alloc _).drewN _).setMany _) (by unfold maxLen; omega) (by omega) (by decide) (by decide) _ hx).mono ?_
 rintro e w1 ⟨rfl,hr1,hg1⟩
 have HF1:Hid (Four w1 w.heap.size 70 (.int .i64 0) (.int .i64 0) (.string ⟨#[]⟩) (.slice none 0 0)):=Lib.hid (((Four.new w _ _ _ _ _).drewN _).kept (grown_trans (grown_setCell _ _ _ _) hg1) (by have:=H.out.lt; simp; omega))
 have HR1:=Lib.hid hr1
 have HG1:Hid (w.grownBy w1 (some r)):=Lib.hid (grown_trans (World.grownBy_alloc w _ _) (grown_drew_l (grown_trans (grown_setCell _ _ _ _) hg1)))
 clear hr1 hg1 c0 c1 c2 f1 f2
 have hmust:=must_any r s x3 ((m+1:Nat):Int) 58 w1 HR1.out (by unfold maxLen; omega) _ hy
 go_wp2_with fail
 refine hmust.mono ?_
 clear hmust
 rintro e w9 ⟨rfl,hr1,hg1⟩
 have d0:=hr1.c0
 have d1:=hr1.c1
 have k1:=hr1.free 1 (by decide)
 have HF7:Hid (Four w9 w.heap.size 70 (.int .i64 0) (.int .i64 0) (.string ⟨#[]⟩) (.slice none 0 0)):=Lib.hid (HF1.out.kept hg1 (by have:=H.out.lt; simp; omega))
 have HR7:=Lib.hid hr1
 have HG7:Hid (w.grownBy w9 (some r)):=Lib.hid (grown_trans HG1.out hg1)
 clear hr1 hg1 HF1 HR1 HG1
 go_wp2_with fail
 go_quiet (fail)
 go_wp2_with fail
 refine (fail_any r s (s.size:Int) ((m+1:Nat):Int) 10 _ ((HR7.out.drewN _).setAt _)).mono ?_
 rintro e w11 ⟨rfl,hr1,hg1⟩
 have HF:Hid (Four w11 w.heap.size 70 (.int .i64 0) (.int .i64 0) (.string ⟨#[]⟩) (.slice none 0 0)):=Lib.hid ((HF7.out.drewN _).kept (grown_trans (grown_setCell _ _ _ _) hg1) (by have:=H.out.lt; simp; omega))
 have HR:=Lib.hid hr1
 have HG:Hid (w.grownBy w11 (some r)):=Lib.hid (grown_trans HG7.out (grown_drew_l (grown_trans (grown_setCell _ _ _ _) hg1)))
 clear hr1 hg1 HF7 HR7 HG7
 generalize w11=w9 at *
 have b0:=HF.out.c0
 have b1:=HF.out.c1
 have b2:=HF.out.c2
 have b3:=HF.out.c3
 have g0:=HF.out.free 0
 have g1:=HF.out.free 1
 have g2:=HF.out.free 2
 have g3:=HF.out.free 3
 go_wp2_with fail
 have HF2:=HF.out.all (.int .i64 0) (.int .i64 0) (.string ⟨#[]⟩) (.slice none 0 0)
 have hgf:=grown_four w9 w.heap.size (.int .i64 0) (.int .i64 0) (.string ⟨#[]⟩) (.slice none 0 0)
 clear b0 b1 b2 b3 g0 g1 g2 g3
 generalize ((((w9.setCell ⟨w.heap.size,0,none⟩ (.int .i64 0)).setCell ⟨w.heap.size,1,none⟩ (.int .i64 0)).setCell ⟨w.heap.size,2,none⟩ (.string ⟨#[]⟩)).setCell ⟨w.heap.size,3,none⟩ (.slice none 0 0))=w10 at *
 have e0:=HF2.c0
 have e1:=HF2.c1
 have e2:=HF2.c2
 have e3:=HF2.c3
 (try simp only [Exit.inBlock,Exit.then])
 refine bodyPost_ret (v:=.tuple #[.agg #[.int .i64 0,.int .i64 0,.string ⟨#[]⟩,.slice none 0 0],.bool false]) ?_ rfl ?_
 ·rw [results_cell_tmp rfl]; go_simp
 ·exact⟨_,rfl,zeroV_at _ _,HR.out.kept hgf (by have:=H.out.lt; simp; omega),grown_fresh HG.out hgf (Nat.le_refl _)⟩
end Go.Proofs.YtlpgbmaoenncjaaGreatDoor
namespace Go.Proofs.YtlpgbmaoenncjaaGreatDoor
open Go.RowKit
set_option linter.unusedVariables false
set_option maxRecDepth 20000 in
set_option maxHeartbeats 4000000 in
theorem value_text_d (r:Nat) (s:ByteArray) (k:Int) (a m:Nat) (w:World) (h:RdAt w r s a m 0) (hs:s.size≤131072) (h1:a<s.size) (hb:48≤s[a].toNat∧s[a].toNat≤57) (hk:k<30) (hm:m<4000)
 (x1 x3:Nat) (hx:Hid ((x1,true,x3,(0:Int))=digitsL s 131072 a (s.size+1 - a) 0 a)) (y2:Nat) (hy:Hid ((true,y2,(0:Int))=mustL s x3 58)) (hy2:y2≤s.size) (hx1:x1≤131072) (hn:x1≤s.size - y2) :
 Calls Tryz.prog 92 #[.pointer (some ⟨r,0,none⟩),.int .i64 k] w (ValPost r s w (⟨.mk 2 0 (s.extract y2 (y2+x1)) [],true,y2+x1,m+1,0⟩)):=by
 have H:=Lib.hid h
 have h2:=h.alloc (.cells #[.int .i64 0,.int .i64 0,.string ⟨#[]⟩,.slice none 0 0] 70)
 have c0:=h2.c0
 have c1:=h2.c1
 have c2:=h2.c2
 have f1:=h2.free 1 (by decide)
 have f2:=h2.free 2 (by decide)
 have hmi:(m:Int)<4000:=by omega
 have hi:(a:Int)<(s.size:Int):=by omega
 have q1:((s[a].toNat:Int) != 105)=true:=by rw [bne_iff_ne]; omega
 have q2:((s[a].toNat:Int) != 108)=true:=by rw [bne_iff_ne]; omega
 have q3:((s[a].toNat:Int)==105)=false:=by rw [beq_eq_false_iff_ne]; omega
 have q4:((s[a].toNat:Int)==108)=false:=by rw [beq_eq_false_iff_ne]; omega
 have q5:(48:Int)≤(s[a].toNat:Int):=by omega
 have q6:(s[a].toNat:Int)≤57:=by omega
 have q7:(x1:Int)≤(s.size:Int) - (y2:Int):=by omega
 have q8:(y2:Int)≤(s.size:Int):=by omega
 have q9:(x1:Int)≤131072:=by omega
 have q10:(s.size:Int)≤131072:=by omega
 clear h h2 hb
 go_enter Tryz.func92,Tryz.ntmps92
 go_wp2_with fail
 go_quiet (fail)
 go_wp2_with fail
 go_quiet (fail)
 go_wp2_with fail
 refine (digits_any r s a ((m+1:Nat):Int) 131072 _ (((H.out.alloc _).drewN _).setMany _) (by unfold maxLen; omega) (by omega) (by decide) (by decide) _ hx).mono ?_
 rintro e w1 ⟨rfl,hr1,hg1⟩
 have HF1:Hid (Four w1 w.heap.size 70 (.int .i64 0) (.int .i64 0) (.string ⟨#[]⟩) (.slice none 0 0)):=Lib.hid (((Four.new w _ _ _ _ _).drewN _).kept (grown_trans (grown_setCell _ _ _ _) hg1) (by have:=H.out.lt; simp; omega))
 have HR1:=Lib.hid hr1
 have HG1:Hid (w.grownBy w1 (some r)):=Lib.hid (grown_trans (World.grownBy_alloc w _ _) (grown_drew_l (grown_trans (grown_setCell _ _ _ _) hg1)))
 clear hr1 hg1 c0 c1 c2 f1 f2
 have hmust:=must_any r s x3 ((m+1:Nat):Int) 58 w1 HR1.out (by unfold maxLen; omega) _ hy
 go_wp2_with fail
 refine hmust.mono ?_
 clear hmust
 rintro e w9 ⟨rfl,hr1,hg1⟩
 have d0:=hr1.c0
 have d1:=hr1.c1
 have k1:=hr1.free 1 (by decide)
 have HF7:Hid (Four w9 w.heap.size 70 (.int .i64 0) (.int .i64 0) (.string ⟨#[]⟩) (.slice none 0 0)):=Lib.hid (HF1.out.kept hg1 (by have:=H.out.lt; simp; omega))
 have HR7:=Lib.hid hr1
 have HG7:Hid (w.grownBy w9 (some r)):=Lib.hid (grown_trans HG1.out hg1)
 clear hr1 hg1 HF1 HR1 HG1
 go_wp2_with fail
 go_quiet (fail)
 go_wp2_with fail
 clear d0 d1 k1
 have HF8:Hid (Four (w9.drewN nq) w.heap.size 70 (.int .i64 0) (.int .i64 0) (.string ⟨#[]⟩) (.slice none 0 0)):=Lib.hid (HF7.out.drewN _)
 have HR8:=Lib.hid (HR7.out.drewN nq)
 have HG8:Hid (w.grownBy (w9.drewN nq) (some r)):=Lib.hid (grown_drewN HG7.out _)
 clear HF7 HR7 HG7
 generalize w9.drewN nq=w8 at *
 have d0:=HR8.out.c0
 have d1:=HR8.out.c1
 have k1:=HR8.out.free 1 (by decide)
 have hr9:=HR8.out.alloc (.cells #[.int .i64 0,.int .i64 0,.string ⟨#[]⟩,.slice none 0 0] 70)
 have l0:=hr9.c0
 have l1:=hr9.c1
 clear hr9
 go_region
 have hg9:∀ row,w8.grownBy (w8.alloc (.cells #[.int .i64 2,.int .i64 0,.string (s.extract y2 (y2+x1)),.slice none 0 0] 70)).drew row:=by
  intro row
  have h:=World.grownBy_alloc w8 (.cells #[.int .i64 2,.int .i64 0,.string (s.extract y2 (y2+x1)),.slice none 0 0] 70) row
  exact⟨h.os,h.tape,h.output,h.size,h.block⟩
 have HB9:Hid (Four (w8.alloc (.cells #[.int .i64 2,.int .i64 0,.string (s.extract y2 (y2+x1)),.slice none 0 0] 70)).drew w8.heap.size 70 (.int .i64 2) (.int .i64 0) (.string (s.extract y2 (y2+x1))) (.slice none 0 0)):=Lib.hid (Four.new w8 _ _ _ _ _)
 clear d0 d1 k1 l0 l1
 generalize (w8.alloc (.cells #[.int .i64 2,.int .i64 0,.string (s.extract y2 (y2+x1)),.slice none 0 0] 70)).drew=w7 at *
 have HF9:=Lib.hid (HF8.out.kept (hg9 none) (by simp))
 have hr9:=HR8.out.kept (hg9 none) (by simp)
 have HG9:=Lib.hid (grown_trans HG8.out (hg9 (some r)))
 have d0:=hr9.c0
 have d1:=hr9.c1
 have k1:=hr9.free 1 (by decide)
 have HR9:=Lib.hid hr9
 have p0:=HB9.out.c0
 have p1:=HB9.out.c1
 have p2:=HB9.out.c2
 have p3:=HB9.out.c3
 have hb8:w8.heap.size≠r:=by have:=HR8.out.lt; omega
 have hb9:w.heap.size≠w8.heap.size:=by have:=lt_of_block HF8.out; omega
 have hbr:w.heap.size≠r:=by have:=H.out.lt; omega
 clear hr9 hg9 HF8 HR8 HG8
 have b0:=HF9.out.c0
 have b1:=HF9.out.c1
 have b2:=HF9.out.c2
 have b3:=HF9.out.c3
 have g0:=HF9.out.free 0
 have g1:=HF9.out.free 1
 have g2:=HF9.out.free 2
 have g3:=HF9.out.free 3
 (try simp only [Exit.then])
 go_wp2_with fail
 have HF:Hid (Four (w7.setCell ⟨r,1,none⟩ (.int .i64 ((y2:Int)+(x1:Int)))) w.heap.size 70 (.int .i64 0) (.int .i64 0) (.string ⟨#[]⟩) (.slice none 0 0)):=Lib.hid (HF9.out.kept (grown_setCell _ r 1 _) (by simp; omega))
 have HR:Hid (RdAt (w7.setCell ⟨r,1,none⟩ (.int .i64 ((y2:Int)+(x1:Int)))) r s ((y2+x1:Nat):Int) ((m+1:Nat):Int) 0):=Lib.hid (by rw [show ((y2+x1:Nat):Int)=(y2:Int)+(x1:Int) by omega]; exact HR9.out.setAt _)
 have HG:Hid (w.grownBy (w7.setCell ⟨r,1,none⟩ (.int .i64 ((y2:Int)+(x1:Int)))) (some r)):=Lib.hid (grown_trans HG9.out (grown_setCell _ r 1 _))
 clear HF9 HR9 HG9 d0 d1 k1 p0 p1 p2 p3 HB9
 generalize (w7.setCell ⟨r,1,none⟩ (.int .i64 ((y2:Int)+(x1:Int))))=w9 at *
 have HF2:=HF.out.all (.int .i64 2) (.int .i64 0) (.string (s.extract y2 (y2+x1))) (.slice none 0 0)
 have hgf:=grown_four w9 w.heap.size (.int .i64 2) (.int .i64 0) (.string (s.extract y2 (y2+x1))) (.slice none 0 0)
 clear b0 b1 b2 b3 g0 g1 g2 g3
 generalize ((((w9.setCell ⟨w.heap.size,0,none⟩ (.int .i64 2)).setCell ⟨w.heap.size,1,none⟩ (.int .i64 0)).setCell ⟨w.heap.size,2,none⟩ (.string (s.extract y2 (y2+x1)))).setCell ⟨w.heap.size,3,none⟩ (.slice none 0 0))=w10 at *
 have e0:=HF2.c0
 have e1:=HF2.c1
 have e2:=HF2.c2
 have e3:=HF2.c3
 (try simp only [Exit.inBlock,Exit.then])
 refine bodyPost_ret (v:=.tuple #[.agg #[.int .i64 2,.int .i64 0,.string (s.extract y2 (y2+x1)),.slice none 0 0],.bool true]) ?_ rfl ?_
 ·rw [results_cell_tmp rfl]; go_simp
 ·exact⟨_,rfl,textV_at _ _ _,HR.out.kept hgf (by have:=H.out.lt; simp; omega),grown_fresh HG.out hgf (Nat.le_refl _)⟩
end Go.Proofs.YtlpgbmaoenncjaaGreatDoor
namespace Go.Proofs.YtlpgbmaoenncjaaGreatDoor
open Go.RowKit
set_option linter.unusedVariables false
theorem infoVal:(Tryz.prog.info? 70).map (fun i=>(i.zero,i.size,i.bytes))=some (some (.agg #[.int .i64 0,.int .i64 0,.string ⟨#[]⟩,.slice none 0 0]),4,56):=by kernel_rfl
theorem underV:Tryz.prog.underlying 68 = some (.slice 70):=by kernel_rfl
theorem infoV:∃ i,Tryz.prog.info? 70 = some i∧i.zero=some (.agg #[.int .i64 0,.int .i64 0,.string ⟨#[]⟩,.slice none 0 0])∧i.size=4∧i.bytes=56:=by
 have h:=infoVal
 cases hi:Tryz.prog.info? 70 with
 | none=>rw [hi] at h; cases h
 | some i =>
   rw [hi] at h
   simp only [Option.map_some,Option.some.injEq,Prod.mk.injEq] at h
   exact⟨i,rfl,h.1,h.2.1,h.2.2⟩
theorem wpList_app4 {P:Program}(w:World) {ops:Array Oper}{rest:List Oper}{o:Oper}{a:Act}{Q:Exit→Act→World→Prop}(hgd:o.guard=none) (s x:Operand) (t:TypeId)
 (ho:o.op = .call { callee:=.builtin .append,args:=#[s,x],argTypes:=#[t,t] })
 (base:Nat) (e:TypeId) (i:TypeInfo) (z:Value) (bytes:Nat) (ht:P.underlying t=some (.slice e)) (hi:P.info? e=some i) (hz:i.zero=some z)
 (hsize:i.size=4) (hby:i.bytes=bytes) (hzs:z.cells.size=4)
 (v:Value) (n:Nat) (xs:List Value) (hown:w.ownsRow base e 4 v n xs) (hs:a.eval s=v)
 (u0 u1 u2 u3:Value) (T:TypeId) (nb:Nat) (hnb:nb=w.heap.size) (hx:a.eval x = .slice (some ⟨nb,0,none⟩) 1 1) (h1:∀ u∈[u0,u1,u2,u3],u.oneCell'=true)
 (h63:n+1≤maxLen) (hbytes:(n+1)*bytes≤140737488355328) (hbase:base≤w.heap.size)
 (h:∀ v' w',w'.ownsRow base e 4 v' (n+1) (xs++[u0,u1,u2,u3])→w.grownBy w' v.ownBlock→w.heap.size<w'.heap.size→(v'.ownBlock=v.ownBlock∨v'.ownBlock=some (w.heap.size+1))→wpList P ops Q rest (a.put o.dst v') w') :
 wpList P ops Q (o :: rest) a (w.alloc (.cells #[u0,u1,u2,u3] T)):=by
 subst hnb
 refine wpList_plain hgd fun _ hK=>?_
 have hnews:∀ j y,[u0,u1,u2,u3][j]? = some y→(w.alloc (.cells #[u0,u1,u2,u3] T)).cell? ((⟨w.heap.size,0,none⟩:Addr).add j)=some y:=by
  intro j y hj
  have hb:(w.alloc (.cells #[u0,u1,u2,u3] T)).heap[w.heap.size]? = some (.cells #[u0,u1,u2,u3] T (0,0)):=heap_alloc_new w _
  have e:(⟨w.heap.size,0,none⟩:Addr).add j=⟨w.heap.size,j,none⟩:=by unfold Addr.add; split <;> simp_all
  rw [e]
  unfold World.cell?
  rw [hb]
  match j,hj with
  | 0,hj=>exact hj
  | 1,hj=>exact hj
  | 2,hj=>exact hj
  | 3,hj=>exact hj
 obtain⟨v',w',hr,h2,h3,-,h5⟩:=run_append_own_at (P:=P) (w:=w.alloc (.cells #[u0,u1,u2,u3] T)) base t o.type e i z 4 bytes ht hi hz hsize hby hzs (by decide) v n xs (hown.alloc _) ⟨w.heap.size,0,none⟩ 1 1 [u0,u1,u2,u3] rfl hnews h1 h63 hbytes (by simp; omega)
 rw [World.size_alloc] at h5
 have h6:w.heap.size<w'.heap.size:=by have:=h3.size; rw [World.size_alloc] at this; omega
 unfold Oper.wp execOp
 simp only [ho,resolve,invoke,builtin,Sem.run_bind,Sem.run_pure,Result.andThen_ok,List.map_toArray,List.map_cons,List.map_nil,hs,hx,hr]
 exact hK _ _ (h v' w' h2 (grown_trans (World.grownBy_alloc w _ _) h3) h6 h5)
def InRow (base:Nat) (v:Value) (w:World) (b:Nat):Prop:=base≤b∧b<w.heap.size∧some b≠v.ownBlock
theorem own_vals {w:World}{base:Nat}{e:TypeId}{v:Value}{n:Nat}{l:List V}{cells:List Value}(h:w.ownsRow base e 4 v n cells) (hr:RowOf w (InRow base v w) l cells) :
 ∃ a c,v = .slice a l.length c∧l.length≤c∧(a=none→c=0)∧VAll w (fun b=>base≤b∧b<w.heap.size) a 0 l:=by
 have hn:n=l.length:=by have:=h.1; rw [hr.length] at this; omega
 have hlt:=h.lt
 have hr2:RowOf w (fun b=>base≤b∧b<w.heap.size) l cells:=hr.move (fun b hb=>⟨hb.1,hb.2.1⟩) (fun _ _=>rfl)
 rcases h.2 with ⟨hv,hl⟩ | ⟨g,c,cur,hv,hg,hh,hnc,_⟩
 ·subst hv
  have hl0:l=[]:=List.eq_nil_of_length_eq_zero (by omega)
  subst hl0
  exact⟨none,0,rfl,Nat.le_refl _,fun _=>rfl,by simp only [VAll]⟩
 ·subst hv
  subst hn
  obtain⟨h1,h2⟩:=hlt g rfl
  refine⟨some ⟨g,0,none⟩,c,rfl,hnc,(fun e=>by cases e),RowOf.all ⟨h1,h2⟩ hr2 fun j u hj=>?_⟩
  have:=h.cells (g:=g) rfl j u hj
  have e:(⟨g,0,none⟩:Addr).add j=⟨g,j,none⟩:=by unfold Addr.add; split <;> simp_all
  rwa [e] at this
theorem row_kept {w w':World}{base r:Nat}{e:TypeId}{v:Value}{n:Nat}{l:List V}{cells:List Value}(h:w.ownsRow base e 4 v n cells) (hr:RowOf w (InRow base v w) l cells) (hg:w.grownBy w' (some r)) (hrb:r<base) :
 w'.ownsRow base e 4 v n cells∧RowOf w' (InRow base v w') l cells:=by
 refine⟨h.kept hg ?_,hr.move (fun b hb=>⟨hb.1,Nat.lt_of_lt_of_le hb.2.1 hg.size,hb.2.2⟩) fun b hb=>hg.block b hb.2.1 (by simp; have:=hb.1; omega)⟩
 by_cases hv:v.ownBlock=some r
 ·have:=(h.lt r hv).1; omega
 ·exact .inr hv
theorem row_snoc {w w1 w2:World}{base:Nat}{e:TypeId}{v v':Value}{n:Nat}{l:List V}{cells cs:List Value}{x:V}
 (h:w1.ownsRow base e 4 v n cells) (hr:RowOf w1 (InRow base v w1) l cells) (hx:V.At w1 (fun b=>w.heap.size≤b∧b<w1.heap.size) x cs) (hb:base≤w.heap.size) (hvl:∀ k,v.ownBlock=some k→k<w.heap.size)
 (hg:w1.grownBy w2 v.ownBlock) (ho:v'.ownBlock=v.ownBlock∨∃ k,v'.ownBlock=some k∧w1.heap.size≤k):RowOf w2 (InRow base v' w2) (l++[x]) (cells++cs):=by
 have hne:∀ b,b<w1.heap.size→some b≠v.ownBlock→some b≠v'.ownBlock:=by
  intro b hb1 hb2 e
  rcases ho with ho | ⟨k,ho,hk⟩
  ·exact hb2 (e.trans ho)
  ·rw [ho] at e; cases e; omega
 refine .snoc (hr.move (fun b hb=>⟨hb.1,Nat.lt_of_lt_of_le hb.2.1 hg.size,hne b hb.2.1 hb.2.2⟩) fun b hb=>hg.block b hb.2.1 hb.2.2) ?_
 have hv:∀ b,w.heap.size≤b→some b≠v.ownBlock:=fun b hb e=>by have:=hvl b e.symm; omega
 exact V.At.move (fun b hb2=>⟨Nat.le_trans hb hb2.1,Nat.lt_of_lt_of_le hb2.2 hg.size,hne b hb2.2 (hv b hb2.1)⟩) (fun b hb2=>hg.block b hb2.2 (hv b hb2.1)) _ _ hx
theorem grown_own {w w1 w2:World}{row ro:Option Nat}(h:w.grownBy w1 row) (k:w1.grownBy w2 ro) (hb:∀ b,ro=some b→w.heap.size≤b):w.grownBy w2 row :=
 ⟨k.os.trans h.os,k.tape.trans h.tape,k.output.trans h.output,Nat.le_trans h.size k.size,fun i hi hr=>(k.block i (Nat.lt_of_lt_of_le hi h.size) (fun e=>by have:=hb i e.symm; omega)).trans (h.block i hi hr)⟩
end Go.Proofs.YtlpgbmaoenncjaaGreatDoor
namespace Go.Proofs.YtlpgbmaoenncjaaGreatDoor
open Go.RowKit
set_option linter.unusedVariables false
def Stop (p:Prop):Prop:=p
theorem Stop.go {p:Prop}(h:Stop p):p:=h
set_option maxRecDepth 20000 in
set_option maxHeartbeats 4000000 in
theorem value_list (r:Nat) (s:ByteArray) (k:Int) (a m:Nat) (w:World) (h:RdAt w r s a m 0) (hs:s.size≤131072) (h1:a<s.size) (hb:s[a]=108) (hk:k<30) (hk0:0≤k) (hm:m<4000)
 (rd:Nat→Nat→Rd) (hgood:Hid (∀ a m,m≤4000→Rd.Good s a (rd a m)))
 (IH:Hid (∀ (a m:Nat) (w:World),RdAt w r s a m 0→a≤s.size→m≤4000→Calls Tryz.prog 92 #[.pointer (some ⟨r,0,none⟩),.int .i64 (k+1)] w (ValPost r s w (rd a m))))
 (x:Rd) (hx:Hid (x=rdList rd s (s.size+1 - (a+1)) (a+1) (m+1) [])) :
 Calls Tryz.prog 92 #[.pointer (some ⟨r,0,none⟩),.int .i64 k] w (ValPost r s w x):=by
 obtain⟨i0,hi0,hz0,hz1,hz2⟩:=infoV
 have HI:=Lib.hid hi0
 have HZ:=Lib.hid (And.intro hz0 (And.intro hz1 hz2))
 have H:=Lib.hid h
 have h2:=h.alloc (.cells #[.int .i64 0,.int .i64 0,.string ⟨#[]⟩,.slice none 0 0] 70)
 have c0:=h2.c0
 have c1:=h2.c1
 have c2:=h2.c2
 have f1:=h2.free 1 (by decide)
 have f2:=h2.free 2 (by decide)
 have hmi:(m:Int)<4000:=by omega
 have hi:(a:Int)<(s.size:Int):=by omega
 have q1:((s[a].toNat:Int) != 105)=true:=by rw [hb]; rfl
 have q2:((s[a].toNat:Int) != 108)=false:=by rw [hb]; rfl
 have q3:((s[a].toNat:Int)==105)=false:=by rw [hb]; rfl
 have q4:((s[a].toNat:Int)==108)=true:=by rw [hb]; rfl
 clear h h2 hb hi0 hz0 hz1 hz2
 go_enter Tryz.func92,Tryz.ntmps92
 go_wp2_with fail
 go_quiet (fail)
 revert nq
 intro nqa
 go_wp2_with fail
 go_quiet (fail)
 revert nq
 intro nqb
 go_wp2_with fail
 have hsz:(w.alloc (.cells #[.int .i64 0,.int .i64 0,.string ⟨#[]⟩,.slice none 0 0] 70)).heap.size=w.heap.size+1:=by simp
 have HF0:=Lib.hid (Four.new w 70 (.int .i64 0) (.int .i64 0) (.string ⟨#[]⟩) (.slice none 0 0))
 have HG0:Hid (w.grownBy (w.alloc (.cells #[.int .i64 0,.int .i64 0,.string ⟨#[]⟩,.slice none 0 0] 70)) (some r)):=Lib.hid (World.grownBy_alloc w _ _)
 have HR0:=Lib.hid (H.out.alloc (.cells #[.int .i64 0,.int .i64 0,.string ⟨#[]⟩,.slice none 0 0] 70))
 clear c0 c1 c2 f1 f2
 generalize (w.alloc (.cells #[.int .i64 0,.int .i64 0,.string ⟨#[]⟩,.slice none 0 0] 70))=w3 at *
 have HG5:Hid (w.grownBy (((w3.drewN (nqa+nqb)).setCell ⟨r,2,none⟩ (.int .i64 ((m:Int)+1))).setCell ⟨r,1,none⟩ (.int .i64 ((a:Int)+1))) (some r)):=Lib.hid (grown_trans HG0.out (grown_drew_l (grown_trans (grown_setCell _ _ _ _) (grown_setCell _ _ _ _))))
 have HF5:Hid (Four (((w3.drewN (nqa+nqb)).setCell ⟨r,2,none⟩ (.int .i64 ((m:Int)+1))).setCell ⟨r,1,none⟩ (.int .i64 ((a:Int)+1))) w.heap.size 70 (.int .i64 0) (.int .i64 0) (.string ⟨#[]⟩) (.slice none 0 0)):=Lib.hid ((HF0.out.drewN _).kept (grown_trans (grown_setCell _ _ _ _) (grown_setCell _ _ _ _)) (by have:=H.out.lt; simp; omega))
 have HR5:Hid (RdAt (((w3.drewN (nqa+nqb)).setCell ⟨r,2,none⟩ (.int .i64 ((m:Int)+1))).setCell ⟨r,1,none⟩ (.int .i64 ((a:Int)+1))) r s ((a+1:Nat):Int) ((m+1:Nat):Int) 0):=Lib.hid (by have:=((HR0.out.drewN (nqa+nqb)).setMany ((m:Int)+1)).setAt ((a:Int)+1); rw [Int.natCast_add,Int.natCast_add]; exact this)
 have hsz5:(((w3.drewN (nqa+nqb)).setCell ⟨r,2,none⟩ (.int .i64 ((m:Int)+1))).setCell ⟨r,1,none⟩ (.int .i64 ((a:Int)+1))).heap.size=w.heap.size+1:=by simp; exact hsz
 have hrw:r<w.heap.size:=H.out.lt
 clear HG0 HF0 HR0 hsz
 generalize (((w3.drewN (nqa+nqb)).setCell ⟨r,2,none⟩ (.int .i64 ((m:Int)+1))).setCell ⟨r,1,none⟩ (.int .i64 ((a:Int)+1)))=w5 at *
 have HF6:=Lib.hid (HF5.out.alloc (.cells #[.int .i64 3,.int .i64 0,.string ⟨#[]⟩,.slice none 0 0] 70))
 have HR6:=Lib.hid (HR5.out.alloc (.cells #[.int .i64 3,.int .i64 0,.string ⟨#[]⟩,.slice none 0 0] 70))
 have HB6:Hid (Four (w5.alloc (.cells #[.int .i64 3,.int .i64 0,.string ⟨#[]⟩,.slice none 0 0] 70)) (w.heap.size+1) 70 (.int .i64 3) (.int .i64 0) (.string ⟨#[]⟩) (.slice none 0 0)):=Lib.hid (by rw [← hsz5]; exact Four.new w5 _ _ _ _ _)
 have HG6:Hid (w.grownBy (w5.alloc (.cells #[.int .i64 3,.int .i64 0,.string ⟨#[]⟩,.slice none 0 0] 70)) (some r)):=Lib.hid (grown_trans HG5.out (World.grownBy_alloc _ _ _))
 have hsz6:(w5.alloc (.cells #[.int .i64 3,.int .i64 0,.string ⟨#[]⟩,.slice none 0 0] 70)).heap.size=w.heap.size+2:=by simp; omega
 clear HF5 HR5 HG5 hsz5
 generalize (w5.alloc (.cells #[.int .i64 3,.int .i64 0,.string ⟨#[]⟩,.slice none 0 0] 70))=w6 at *
 have hdd:decide (s.size≤a)=false:=by simp; omega
 (try simp only [hdd])
 clear hdd
 go_loopg [] (s.size+1 - (a+1)) (fun gk wr=>∃ (a' m':Nat) (acc:List V) (cells:List Value) (va:Option Addr) (vc:Nat),s.size<gk+a'∧a'≤s.size∧m'≤4000∧acc.length≤a'∧w.heap.size+2≤wr.heap.size∧Hid (RdAt wr r s (a':Int) (m':Int) 0)∧Hid (Four wr w.heap.size 70 (.int .i64 0) (.int .i64 0) (.string ⟨#[]⟩) (.slice none 0 0))
  ∧ Hid (Four wr (w.heap.size+1) 70 (.int .i64 3) (.int .i64 0) (.string ⟨#[]⟩) (.slice va acc.length vc))∧Hid (wr.ownsRow (w.heap.size+2) 70 4 (.slice va acc.length vc) acc.length cells)∧Hid (RowOf wr (InRow (w.heap.size+2) (.slice va acc.length vc) wr) acc cells)∧Hid (w.grownBy wr (some r))∧Hid (x=rdList rd s gk a' m' acc))
 case atStart=>exact⟨a+1,m+1,[],[],none,0,by omega,by omega,by omega,Nat.zero_le _,by omega,HR6,HF6,HB6,Lib.hid (World.ownsRow_nil _ _ _ _),Lib.hid .nil,HG6,hx⟩
 case round =>
  obtain⟨a',m',acc,cells,va,vc,hgk,ha',hm',hacc,hsz,hR,hF,hB,hO,hRow,hG,hX⟩:=hrel
  clear hx
  have d0:=hR.out.c0
  have d1:=hR.out.c1
  have k1:=hR.out.free 1 (by decide)
  have b0':=hF.out.c0
  have b1':=hF.out.c1
  have b2':=hF.out.c2
  have b3':=hF.out.c3
  have g0:=hF.out.free 0
  have g1:=hF.out.free 1
  have g2:=hF.out.free 2
  have g3:=hF.out.free 3
  have e0:=hB.out.c0
  have e1:=hB.out.c1
  have e2:=hB.out.c2
  have e3:=hB.out.c3
  obtain⟨f,rfl⟩:∃ f,gk=f+1:=⟨gk - 1,by omega⟩
  have hst:=hX.out
  rw [rdList] at hst
  clear hX
  by_cases hend:s.data.toList[a']? = some 101
  ·rw [if_pos hend] at hst
   have hlt:a'<s.size:=at_some hend
   have hlti:(a':Int)<(s.size:Int):=by omega
   rw [at_lt hlt] at hend
   have hc:((s[a'].toNat:Int) != 101)=false:=by rw [Option.some.inj hend]; rfl
   have HST:=Lib.hid hst
   clear hend hst
   go_wp2_with fail
   go_quiet (fail)
   go_wp2_with fail
   have HF:Hid (Four ((wr.drewN nq).setCell ⟨r,1,none⟩ (.int .i64 ((a':Int)+1))) w.heap.size 70 (.int .i64 0) (.int .i64 0) (.string ⟨#[]⟩) (.slice none 0 0)):=Lib.hid ((hF.out.drewN _).kept (grown_setCell _ _ _ _) (by simp; omega))
   have HR:Hid (RdAt ((wr.drewN nq).setCell ⟨r,1,none⟩ (.int .i64 ((a':Int)+1))) r s ((a'+1:Nat):Int) (m':Int) 0):=Lib.hid (by rw [Int.natCast_add]; exact (hR.out.drewN _).setAt _)
   have hg9:=grown_drew_l (grown_setCell (wr.drewN nq) r 1 (.int .i64 ((a':Int)+1)))
   have HG:=Lib.hid (grown_trans hG.out hg9)
   obtain⟨hO9,hRow9⟩:=row_kept hO.out hRow.out hg9 (by omega)
   have HO:=Lib.hid hO9
   have HRow:=Lib.hid hRow9
   clear hO9 hRow9 hg9
   generalize ((wr.drewN nq).setCell ⟨r,1,none⟩ (.int .i64 ((a':Int)+1)))=w9 at *
   have HF2:=HF.out.all (.int .i64 3) (.int .i64 0) (.string ⟨#[]⟩) (.slice va acc.length vc)
   have hgf:=grown_four w9 w.heap.size (.int .i64 3) (.int .i64 0) (.string ⟨#[]⟩) (.slice va acc.length vc)
   clear b0' b1' b2' b3' g0 g1 g2 g3 d0 d1 k1 e0 e1 e2 e3
   generalize ((((w9.setCell ⟨w.heap.size,0,none⟩ (.int .i64 3)).setCell ⟨w.heap.size,1,none⟩ (.int .i64 0)).setCell ⟨w.heap.size,2,none⟩ (.string ⟨#[]⟩)).setCell ⟨w.heap.size,3,none⟩ (.slice va acc.length vc))=w10 at *
   have e0:=HF2.c0
   have e1:=HF2.c1
   have e2:=HF2.c2
   have e3:=HF2.c3
   (try simp only [Exit.inBlock,Exit.then])
   refine bodyPost_ret (v:=.tuple #[.agg #[.int .i64 3,.int .i64 0,.string ⟨#[]⟩,.slice va acc.length vc],.bool true]) ?_ rfl ?_
   ·rw [results_cell_tmp rfl]; go_simp
   ·rw [HST.out]
    obtain⟨h1,h2⟩:=row_kept HO.out HRow.out hgf (by omega)
    obtain⟨a1,c1,h3,h4,h5,h6⟩:=own_vals h1 h2
    cases h3
    refine⟨_,rfl,?_,HR.out.kept hgf (by simp; omega),grown_fresh HG.out hgf (Nat.le_refl _)⟩
    simp only [V.At]
    exact⟨va,vc,rfl,h4,h5,VAll.move (fun b (hb:_∧_)=>⟨by omega,hb.2⟩) (fun _ _=>rfl) _ _ _ h6⟩
  ·rw [if_neg hend] at hst
   have hcall:=IH.out a' m'
   have hgd:=hgood.out a' m' hm'
   generalize rd a' m'=y at *
   have HST:=Lib.hid hst
   have HC:=Lib.hid hcall
   have HGD:=Lib.hid hgd
   clear hst hcall hgd
   have hways:((s.size:Int)≤(a':Int))∨∃ h:a'<s.size,(a':Int)<(s.size:Int)∧((s[a'].toNat:Int) != 101)=true:=by
    rcases Nat.lt_or_ge a' s.size with h | h
    ·refine .inr ⟨h,by omega,?_⟩
     rw [at_lt h] at hend
     rw [bne_iff_ne]; intro e
     exact hend (congrArg some (UInt8.toNat_inj.1 (by show s[a'].toNat=101; omega)))
    ·exact .inl (by omega)
   clear hend
   rcases hways with hw1 | ⟨hlt,hw1,hw2⟩
   all_goals
    go_wp2_with fail
    go_quiet (fail)
    go_wp2_with fail
    refine (HC.out _ (hR.out.drewN _) ha' hm').mono ?_
    rintro e w1 ⟨cs,rfl,hat,hr1,hg1⟩
    obtain⟨⟨vk,vn,vs,vl⟩,yok,yat,ym,ybad⟩:=y
    have hat':=hat
    simp only [V.At] at hat
    obtain⟨xa,xc,rfl,hxl,hxn,hxall⟩:=hat
    clear hxall hxn hxl
    have HAT:=Lib.hid hat'
    have hgw:=grown_drew_l hg1
    obtain⟨hO1,hRow1⟩:=row_kept hO.out hRow.out hgw (by omega)
    have HO1:=Lib.hid hO1
    have HRow1:=Lib.hid hRow1
    have HF1:=Lib.hid (hF.out.kept hgw (by simp; omega))
    have HB1:=Lib.hid (hB.out.kept hgw (by simp; omega))
    have HG1:=Lib.hid (grown_trans hG.out hgw)
    have HR1:=Lib.hid hr1
    have hvl:=hO.out.lt
    have hvl1:∀ k,(Value.slice va acc.length vc).ownBlock=some k→k<wr.heap.size:=fun k hk=>(hvl k hk).2
    have hsz1:w.heap.size+2≤w1.heap.size:=Nat.le_trans hsz hg1.size
    have hszw:wr.heap.size≤w1.heap.size:=hgw.size
    have HVL:=Lib.hid hvl1
    clear hat' hgw hO1 hRow1 hr1 hg1 hvl hvl1 b0' b1' b2' b3' g0 g1 g2 g3 d0 d1 k1 e0 e1 e2 e3
    have HF2:=Lib.hid (HF1.out.alloc (.cells #[.int .i64 vk,.int .i64 vn,.string vs,.slice xa vl.length xc] 70))
    have HB2:=Lib.hid (HB1.out.alloc (.cells #[.int .i64 vk,.int .i64 vn,.string vs,.slice xa vl.length xc] 70))
    have HR2:=Lib.hid (HR1.out.alloc (.cells #[.int .i64 vk,.int .i64 vn,.string vs,.slice xa vl.length xc] 70))
    have HG2:=Lib.hid (grown_trans HG1.out (World.grownBy_alloc w1 (.cells #[.int .i64 vk,.int .i64 vn,.string vs,.slice xa vl.length xc] 70) (some r)))
    have HN2:=Lib.hid (Four.new w1 70 (.int .i64 vk) (.int .i64 vn) (.string vs) (.slice xa vl.length xc))
    have b0:=HF2.out.c0
    have b1:=HF2.out.c1
    have b2:=HF2.out.c2
    have b3:=HF2.out.c3
    have g0:=HF2.out.free 0
    have g1:=HF2.out.free 1
    have g2:=HF2.out.free 2
    have g3:=HF2.out.free 3
    have e3:=HB2.out.c3
    have k3:=HB2.out.free 3
    have n0:=HN2.out.c0
    have n1:=HN2.out.c1
    have n2:=HN2.out.c2
    have n3:=HN2.out.c3
    cases yok with
    | false =>
      go_wp2_with fail
      have HST2:Hid (x=Rd.no yat ym ybad):=Lib.hid (by rw [HST.out]; rfl)
      have HF3:=HF2.out.all (.int .i64 0) (.int .i64 0) (.string ⟨#[]⟩) (.slice none 0 0)
      have hgf:=grown_four (w1.alloc (.cells #[.int .i64 vk,.int .i64 vn,.string vs,.slice xa vl.length xc] 70)) w.heap.size (.int .i64 0) (.int .i64 0) (.string ⟨#[]⟩) (.slice none 0 0)
      clear b0 b1 b2 b3 g0 g1 g2 g3 e3 k3 n0 n1 n2 n3
      generalize (w1.alloc (.cells #[.int .i64 vk,.int .i64 vn,.string vs,.slice xa vl.length xc] 70))=w9 at *
      generalize ((((w9.setCell ⟨w.heap.size,0,none⟩ (.int .i64 0)).setCell ⟨w.heap.size,1,none⟩ (.int .i64 0)).setCell ⟨w.heap.size,2,none⟩ (.string ⟨#[]⟩)).setCell ⟨w.heap.size,3,none⟩ (.slice none 0 0))=w10 at *
      have e0:=HF3.c0
      have e1:=HF3.c1
      have e2:=HF3.c2
      have e3:=HF3.c3
      (try simp only [Exit.inBlock,Exit.then])
      refine bodyPost_ret (v:=.tuple #[.agg #[.int .i64 0,.int .i64 0,.string ⟨#[]⟩,.slice none 0 0],.bool false]) ?_ rfl ?_
      ·rw [results_cell_tmp rfl]; go_simp
      ·rw [HST2.out]
       exact⟨_,rfl,zeroV_at _ _,HR2.out.kept hgf (by simp; omega),grown_fresh HG2.out hgf (Nat.le_refl _)⟩
    | true =>
      obtain⟨hbad,hyat,hyat2,hym⟩:=HGD.out rfl
      dsimp only at hbad hyat hyat2 hym
      subst hbad
      have h4:∀ u∈[Value.int .i64 vk,.int .i64 vn,.string vs,.slice xa vl.length xc],u.oneCell'=true:=HAT.out.four.2
      have H4:=Lib.hid h4
      have HY:=Lib.hid (And.intro hyat (And.intro hyat2 hym))
      clear hyat hyat2 hym h4
      go_wp2_with (at_builtin; refine Stop.go ?_)
      unfold Stop
      refine wpList_app4 _ rfl _ _ 68 rfl (w.heap.size+2) 70 i0 _ 56 underV HI.out HZ.out.1 HZ.out.2.1 HZ.out.2.2 rfl _ acc.length cells (HO1.out.alloc _) rfl _ _ _ _ _ (w1.heap.size+1) (by simp) rfl H4.out (by unfold maxLen; omega) (by omega) (by simp; omega) ?_
      intro v3 w3 ho3 hg3 hs3 hob
      generalize hw2:w1.alloc (.cells #[.int .i64 vk,.int .i64 vn,.string vs,.slice xa vl.length xc] 70)=w2 at *
      have hgw2:∀ row,w1.grownBy w2 row:=fun row=>hw2 ▸ World.grownBy_alloc w1 _ row
      obtain⟨hO2,hRow2⟩:=row_kept HO1.out HRow1.out (hgw2 (some r)) (by omega)
      have hsz2:=(hgw2 none).size
      have hlt2:=hO2.lt
      have hat2:V.At w2 (fun b=>wr.heap.size≤b∧b<w2.heap.size) (.mk vk vn vs vl) [.int .i64 vk,.int .i64 vn,.string vs,.slice xa vl.length xc]:=V.At.move (fun b (hb:_∧_)=>⟨hb.1,Nat.lt_of_lt_of_le hb.2 hsz2⟩) (fun b (hb:_∧_)=>(hgw2 none).block b hb.2 (by simp)) _ _ HAT.out
      have hrow3:RowOf w3 (InRow (w.heap.size+2) v3 w3) (acc++[.mk vk vn vs vl]) (cells++[.int .i64 vk,.int .i64 vn,.string vs,.slice xa vl.length xc]):=row_snoc hO2 hRow2 hat2 hsz HVL.out hg3 (hob.imp id fun e=>⟨_,e,by omega⟩)
      obtain⟨a3,c3,rfl,-⟩:=own_vals ho3 hrow3
      have hne:∀ b,b<w.heap.size+2→some b≠(Value.slice va acc.length vc).ownBlock:=fun b hb e=>by have:=(hlt2 b e.symm).1; omega
      have HF3:=Lib.hid (HF2.out.kept hg3 (hne _ (by omega)))
      have HB3:=Lib.hid (HB2.out.kept hg3 (hne _ (by omega)))
      have HR3:=Lib.hid (HR2.out.kept hg3 (hne _ (by omega)))
      have HG3:=Lib.hid (grown_own HG2.out hg3 (fun b e=>by have:=(hlt2 b e).1; omega))
      have hlen:(acc++[V.mk vk vn vs vl]).length=acc.length+1:=by simp
      rw [hlen] at ho3 hrow3
      have HO3:=Lib.hid ho3
      have HRow3:=Lib.hid hrow3
      have hsz3:w.heap.size+2≤w3.heap.size:=by omega
      have HLEN:=Lib.hid hlen
      clear b0 b1 b2 b3 g0 g1 g2 g3 e3 k3 n0 n1 n2 n3 ho3 hrow3 hg3 hob hat2 hO2 hRow2 hlt2 hgw2 hw2 hne hs3 hlen
      have e3:=HB3.out.c3
      have k3:=HB3.out.free 3
      go_wp2_with fail
      go_roundg f
      case rel =>
       have hg4:=grown_setCell w3 (w.heap.size+1) 3 (.slice a3 (acc.length+1) c3)
       obtain⟨h5,h6⟩:=row_kept HO3.out HRow3.out hg4 (by omega)
       refine⟨yat,ym,acc++[.mk vk vn vs vl],cells++[.int .i64 vk,.int .i64 vn,.string vs,.slice xa vl.length xc],a3,c3,?_,?_,?_,?_,?_,Lib.hid (HR3.out.kept hg4 (by simp; omega)),Lib.hid (HF3.out.kept hg4 (by simp)),?_,?_,?_,Lib.hid (grown_fresh HG3.out hg4 (by omega)),?_⟩
       ·have:=HY.out; omega
       ·exact HY.out.2.1
       ·exact HY.out.2.2
       ·rw [HLEN.out]; have:=HY.out; omega
       ·simp; exact hsz3
       ·rw [HLEN.out]; exact Lib.hid (HB3.out.set3 _)
       ·rw [HLEN.out]; exact Lib.hid h5
       ·rw [HLEN.out]; exact Lib.hid h6
       ·exact Lib.hid (by rw [HST.out]; rfl)
      case measure=>omega
end Go.Proofs.YtlpgbmaoenncjaaGreatDoor
namespace Go.Proofs.YtlpgbmaoenncjaaGreatDoor
open Go.RowKit
set_option linter.unusedVariables false
theorem value_text (r:Nat) (s:ByteArray) (k:Int) (a m:Nat) (w:World) (h:RdAt w r s a m 0) (hs:s.size≤131072) (h1:a<s.size) (hb:48≤s[a].toNat∧s[a].toNat≤57) (hk:k<30) (hm:m<4000) :
 Calls Tryz.prog 92 #[.pointer (some ⟨r,0,none⟩),.int .i64 k] w (ValPost r s w (rdText s a (m+1))):=by
 unfold rdText
 have hok:=digitsL_ok s 131072 a (by decide) (s.size+1 - a) 0 a (Nat.le_refl _) (Nat.zero_le _)
 have hx:Hid (digitsL s 131072 a (s.size+1 - a) 0 a=digitsL s 131072 a (s.size+1 - a) 0 a):=Lib.hid rfl
 generalize hg:digitsL s 131072 a (s.size+1 - a) 0 a=x at *
 rw [← hg] at hx
 obtain⟨x1,x2,x3,x4⟩:=x
 dsimp only at *
 cases x2 with
 | false=>exact value_text_a r s k a m w h hs h1 hb hk hm x1 x3 x4 (Lib.hid hg.symm)
 | true =>
   rw [if_pos rfl]
   obtain⟨hx4,hx1,-,hx3⟩:=hok rfl
   subst hx4
   have hma:=mustL_at s x3 58
   have hmo:=mustL_ok s x3 58
   generalize hh:mustL s x3 58=y at *
   obtain⟨y1,y2,y3⟩:=y
   dsimp only at *
   cases y1 with
   | false=>exact value_text_b r s k a m w h hs h1 hb hk hm x1 x3 (Lib.hid hg.symm) y2 y3 (Lib.hid hh.symm)
   | true =>
     rw [if_pos rfl]
     obtain⟨hy2,hy3⟩:=hma rfl
     have hy4:=hmo rfl
     subst hy4
     by_cases hn:s.size - y2<x1
     ·rw [if_pos hn]
      exact value_text_c r s k a m w h hs h1 hb hk hm x1 x3 (Lib.hid hg.symm) y2 (Lib.hid hh.symm) (by omega) hx1 hn
     ·rw [if_neg hn]
      exact value_text_d r s k a m w h hs h1 hb hk hm x1 x3 (Lib.hid hg.symm) y2 (Lib.hid hh.symm) (by omega) hx1 (by omega)
theorem value_any (r:Nat) (s:ByteArray) (hs:s.size≤131072):∀ (d:Nat) (k:Int),k+(d:Int)=30→0≤k→∀ (a m:Nat) (w:World),RdAt w r s a m 0→a≤s.size→m≤4000 →
 Calls Tryz.prog 92 #[.pointer (some ⟨r,0,none⟩),.int .i64 k] w (ValPost r s w (rdValue s d a m))
 | 0,k,hk,hk0,a,m,w,h,ha,hm=>by
   rw [rdValue]
   by_cases h1:a<s.size
   ·rw [at_lt h1]
    dsimp only
    cases hb:begins s[a] with
    | true=>rw [if_pos rfl]; exact value_deep r s k a m w h hs h1 hb (by omega)
    | false=>exact value_byte r s k a m w h hs h1 hb
   ·rw [at_ge h1]; exact value_end r s k a m w h hs h1
 | d+1,k,hk,hk0,a,m,w,h,ha,hm=>by
   rw [rdValue]
   by_cases h1:a<s.size
   ·rw [at_lt h1]
    dsimp only
    cases hb:begins s[a] with
    | false=>exact value_byte r s k a m w h hs h1 hb
    | true =>
      rw [if_pos rfl]
      by_cases h2:4000≤m
      ·rw [if_pos h2]; exact value_long r s k a m w h hs h1 hb (by omega) h2
      ·rw [if_neg h2]
       by_cases h3:s[a]=105
       ·rw [if_pos h3]; exact value_number r s k a m w h hs h1 h3 (by omega) (by omega)
       ·rw [if_neg h3]
        by_cases h4:s[a]=108
        ·rw [if_pos h4]
         exact value_list r s k a m w h hs h1 h4 (by omega) hk0 (by omega) (rdValue s d) (Lib.hid (rdValue_good s d)) (Lib.hid (value_any r s hs d (k+1) (by omega) (by omega))) _ (Lib.hid rfl)
        ·rw [if_neg h4]
         refine value_text r s k a m w h hs h1 ?_ (by omega) (by omega)
         unfold begins at hb
         simpa [h3,h4] using hb
   ·rw [at_ge h1]; exact value_end r s k a m w h hs h1
end Go.Proofs.YtlpgbmaoenncjaaGreatDoor

namespace Go.Proofs.YtlpgbmaoenncjaaGreatDoor
open Go.RowKit
set_option linter.unusedVariables false
theorem results_cell_tmps {fn:Func}{p u v:Tmp}{ty:TypeId}(h:fn.results=#[.cell p ty,.tmp u,.tmp v]) (tmps:Array Value) (P:Program) (w:World) :
 (results fn tmps).run P w =
   ((asAddr (tmps.getD p undef)).run P w).andThen fun a w₁=>((loadVar ty a).run P w₁).andThen fun x w₂=>.ok (.tuple #[x,tmps.getD u undef,tmps.getD v undef]) w₂:=by
 simp only [results,h]
 simp [Sem.run_bind,Result.andThen]
structure Got where
 v:V
 bad:Int
 at_:Nat
def getL (s:ByteArray):Got :=
 if 131072<s.size then ⟨zeroV,2,0⟩
 else if (rdValue s 30 0 0).ok=true then (if (rdValue s 30 0 0).at_<s.size then ⟨zeroV,11,(rdValue s 30 0 0).at_⟩ else ⟨(rdValue s 30 0 0).v,0,0⟩)
 else ⟨zeroV,(rdValue s 30 0 0).bad,(rdValue s 30 0 0).at_⟩
def GetPost (w:World) (x:Got) (e:Ending) (w':World):Prop :=
 ∃ cs:List Value,e = .returned (.tuple #[.agg cs.toArray,.int .i64 x.bad,.int .i64 (x.at_:Int)])∧V.At w' (fun b=>w.heap.size≤b∧b<w'.heap.size) x.v cs∧Below w.heap.size w w'
set_option maxRecDepth 20000 in
set_option maxHeartbeats 4000000 in
theorem get_long (s:ByteArray) (w:World) (hm:s.size≤9223372036854775807) (h:131072<s.size) :
 Calls Tryz.prog 42 #[.string s] w (GetPost w ⟨zeroV,2,0⟩):=by
 have hi:(131072:Int)<(s.size:Int):=by omega
 have HF:Hid (Four (w.alloc (.cells #[.int .i64 0,.int .i64 0,.string ⟨#[]⟩,.slice none 0 0] 70)) w.heap.size 70 (.int .i64 0) (.int .i64 0) (.string ⟨#[]⟩) (.slice none 0 0)):=Lib.hid (Four.new w _ _ _ _ _)
 have HB:=Lib.hid ((Below.refl w.heap.size w).alloc (Nat.le_refl _) (.cells #[.int .i64 0,.int .i64 0,.string ⟨#[]⟩,.slice none 0 0] 70))
 have b0:=HF.out.c0
 have b1:=HF.out.c1
 have b2:=HF.out.c2
 have b3:=HF.out.c3
 have g0:=HF.out.free 0
 have g1:=HF.out.free 1
 have g2:=HF.out.free 2
 have g3:=HF.out.free 3
 go_enter Tryz.func42,Tryz.ntmps42
 go_wp2_with fail
 clear b0 b1 b2 b3 g0 g1 g2 g3
 generalize (w.alloc (.cells #[.int .i64 0,.int .i64 0,.string ⟨#[]⟩,.slice none 0 0] 70))=w9 at *
 have e0:=HF.out.c0
 have e1:=HF.out.c1
 have e2:=HF.out.c2
 have e3:=HF.out.c3
 (try simp only [Exit.inBlock,Exit.then])
 refine bodyPost_ret (v:=.tuple #[.agg #[.int .i64 0,.int .i64 0,.string ⟨#[]⟩,.slice none 0 0],.int .i64 2,.int .i64 0]) ?_ rfl ?_
 ·rw [results_cell_tmps rfl]; go_simp
 ·exact⟨_,rfl,zeroV_at _ _,HB.out⟩
set_option maxRecDepth 20000 in
set_option maxHeartbeats 4000000 in
theorem get_short (s:ByteArray) (w:World) (h:s.size≤131072) (y:Rd) (hy:Hid (y=rdValue s 30 0 0)) (g:Got) (hg:Hid (g=(if y.ok=true then (if y.at_<s.size then ⟨zeroV,11,y.at_⟩ else ⟨y.v,0,0⟩) else ⟨zeroV,y.bad,y.at_⟩))) :
 Calls Tryz.prog 42 #[.string s] w (GetPost w g):=by
 have hi:(s.size:Int)≤131072:=by omega
 have hcall:=Lib.hid (fun (w0:World) (h0:RdAt w0 (w.heap.size+1) s 0 0 0)=>hy.out ▸ value_any (w.heap.size+1) s h 30 0 (by decide) (by decide) 0 0 w0 h0 (Nat.zero_le _) (Nat.zero_le _))
 have hgood:=rdValue_good s 30 0 0 (by decide)
 rw [← hy.out] at hgood
 have HGD:=Lib.hid hgood
 clear hgood hy
 have HF0:Hid (Four (w.alloc (.cells #[.int .i64 0,.int .i64 0,.string ⟨#[]⟩,.slice none 0 0] 70)) w.heap.size 70 (.int .i64 0) (.int .i64 0) (.string ⟨#[]⟩) (.slice none 0 0)):=Lib.hid (Four.new w _ _ _ _ _)
 have HB0:=Lib.hid ((Below.refl w.heap.size w).alloc (Nat.le_refl _) (.cells #[.int .i64 0,.int .i64 0,.string ⟨#[]⟩,.slice none 0 0] 70))
 have hsz0:(w.alloc (.cells #[.int .i64 0,.int .i64 0,.string ⟨#[]⟩,.slice none 0 0] 70)).heap.size=w.heap.size+1:=by simp
 go_enter Tryz.func42,Tryz.ntmps42
 go_wp2_with fail
 have HF1:=Lib.hid (HF0.out.alloc (.cells #[.string s,.int .i64 0,.int .i64 0,.int .i64 0] 139))
 have HB1:=Lib.hid (HB0.out.alloc (by simp) (.cells #[.string s,.int .i64 0,.int .i64 0,.int .i64 0] 139))
 have HN1:=Four.new (w.alloc (.cells #[.int .i64 0,.int .i64 0,.string ⟨#[]⟩,.slice none 0 0] 70)) 139 (.string s) (.int .i64 0) (.int .i64 0) (.int .i64 0)
 have hsz1:((w.alloc (.cells #[.int .i64 0,.int .i64 0,.string ⟨#[]⟩,.slice none 0 0] 70)).alloc (.cells #[.string s,.int .i64 0,.int .i64 0,.int .i64 0] 139)).heap.size=w.heap.size+2:=by simp
 have hr1:RdAt ((w.alloc (.cells #[.int .i64 0,.int .i64 0,.string ⟨#[]⟩,.slice none 0 0] 70)).alloc (.cells #[.string s,.int .i64 0,.int .i64 0,.int .i64 0] 139)) (w.heap.size+1) s 0 0 0:=by
  rw [hsz0] at HN1
  exact⟨by rw [hsz1]; omega,HN1.c0,HN1.c1,HN1.c2,HN1.c3,fun j _=>HN1.free j⟩
 refine (hcall.out _ hr1).mono ?_
 rintro e w1 ⟨cs,rfl,hat,hr2,hg2⟩
 clear hr1 HN1 hcall HF0 HB0 hsz0
 have HF2:=Lib.hid (HF1.out.kept hg2 (by simp))
 have HB2:=Lib.hid (HB1.out.grown hg2 (by rw [hsz1]; omega) (fun k e=>by cases e; omega))
 have hsz2:=hg2.size
 have HR2:=Lib.hid hr2
 rw [hsz1] at hsz2
 clear hr2 hg2 HF1 HB1 hsz1
 obtain⟨⟨vk,vn,vs,vl⟩,yok,yat,ym,ybad⟩:=y
 have hat':=V.At.move (T:=fun b=>w.heap.size+1≤b∧b<w1.heap.size) (fun b (hb:_∧_)=>⟨by have:=hb.1; simp at this; omega,hb.2⟩) (fun _ _=>rfl) _ _ hat
 simp only [V.At] at hat
 obtain⟨xa,xc,rfl,-,-,-⟩:=hat
 have HAT:=Lib.hid hat'
 clear hat'
 have hst:=hg.out
 clear hg
 have HF3:=Lib.hid (HF2.out.alloc (.cells #[.int .i64 vk,.int .i64 vn,.string vs,.slice xa vl.length xc] 70))
 have HN3:=Lib.hid (Four.new w1 70 (.int .i64 vk) (.int .i64 vn) (.string vs) (.slice xa vl.length xc))
 have HR3:=Lib.hid (HR2.out.alloc (.cells #[.int .i64 vk,.int .i64 vn,.string vs,.slice xa vl.length xc] 70))
 have HB3:=Lib.hid (HB2.out.alloc (by omega) (.cells #[.int .i64 vk,.int .i64 vn,.string vs,.slice xa vl.length xc] 70))
 have HK:Hid (w1.grownBy (w1.alloc (.cells #[.int .i64 vk,.int .i64 vn,.string vs,.slice xa vl.length xc] 70)) none):=Lib.hid (World.grownBy_alloc w1 _ none)
 have b0:=HF3.out.c0
 have b1:=HF3.out.c1
 have b2:=HF3.out.c2
 have b3:=HF3.out.c3
 have g0:=HF3.out.free 0
 have g1:=HF3.out.free 1
 have g2:=HF3.out.free 2
 have g3:=HF3.out.free 3
 have n0:=HN3.out.c0
 have n1:=HN3.out.c1
 have n2:=HN3.out.c2
 have n3:=HN3.out.c3
 have d1:=HR3.out.c1
 have d3:=HR3.out.c3
 cases yok with
 | false =>
   have HST:Hid (g=⟨zeroV,ybad,yat⟩):=Lib.hid (by rw [hst]; rfl)
   clear hst
   go_wp2_with fail
   go_region
   (try simp only [Exit.then])
   go_wp2_with fail
   have HF4:=HF3.out.all (.int .i64 0) (.int .i64 0) (.string ⟨#[]⟩) (.slice none 0 0)
   have hgf:=grown_four (w1.alloc (.cells #[.int .i64 vk,.int .i64 vn,.string vs,.slice xa vl.length xc] 70)) w.heap.size (.int .i64 0) (.int .i64 0) (.string ⟨#[]⟩) (.slice none 0 0)
   have HB4:=Lib.hid (HB3.out.grown hgf (by simp; omega) (fun k e=>by cases e; exact Nat.le_refl _))
   clear b0 b1 b2 b3 g0 g1 g2 g3 n0 n1 n2 n3 d1 d3
   generalize (w1.alloc (.cells #[.int .i64 vk,.int .i64 vn,.string vs,.slice xa vl.length xc] 70))=w9 at *
   generalize ((((w9.setCell ⟨w.heap.size,0,none⟩ (.int .i64 0)).setCell ⟨w.heap.size,1,none⟩ (.int .i64 0)).setCell ⟨w.heap.size,2,none⟩ (.string ⟨#[]⟩)).setCell ⟨w.heap.size,3,none⟩ (.slice none 0 0))=w10 at *
   have HF4:Four w10.drew w.heap.size 70 (.int .i64 0) (.int .i64 0) (.string ⟨#[]⟩) (.slice none 0 0):=HF4
   have HB4:Hid (Below w.heap.size w w10.drew):=Lib.hid HB4.out.drew
   generalize w10.drew=w11 at *
   have e0:=HF4.c0
   have e1:=HF4.c1
   have e2:=HF4.c2
   have e3:=HF4.c3
   (try simp only [Exit.inBlock,Exit.then])
   refine bodyPost_ret (v:=.tuple #[.agg #[.int .i64 0,.int .i64 0,.string ⟨#[]⟩,.slice none 0 0],.int .i64 ybad,.int .i64 (yat:Int)]) ?_ rfl ?_
   ·rw [results_cell_tmps rfl]; go_simp
   ·rw [HST.out]; exact⟨_,rfl,zeroV_at _ _,HB4.out⟩
 | true =>
   obtain⟨hbad,hyat,hyat2,hym⟩:=HGD.out rfl
   dsimp only at hbad hyat hyat2 hym
   subst hbad
   by_cases hat:yat<s.size
   ·have HST:Hid (g=⟨zeroV,11,yat⟩):=Lib.hid (by rw [hst,if_pos rfl,if_pos hat])
    have hati:(yat:Int)<(s.size:Int):=by omega
    clear hst
    go_wp2_with fail
    refine (fail_any (w.heap.size+1) s (yat:Int) (ym:Int) 11 _ HR3.out).mono ?_
    rintro e w9 ⟨rfl,hr5,hg5⟩
    have HF5:=Lib.hid (HF3.out.kept hg5 (by simp))
    have HB5:=Lib.hid (HB3.out.grown hg5 (by simp; omega) (fun k e=>by cases e; omega))
    have HR5:=Lib.hid hr5
    have hsz5:=hg5.size
    rw [World.size_alloc] at hsz5
    clear hr5 hg5 b0 b1 b2 b3 g0 g1 g2 g3 d1 d3
    have b0:=HF5.out.c0
    have b1:=HF5.out.c1
    have b2:=HF5.out.c2
    have b3:=HF5.out.c3
    have g0:=HF5.out.free 0
    have g1:=HF5.out.free 1
    have g2:=HF5.out.free 2
    have g3:=HF5.out.free 3
    have d1:=HR5.out.c1
    have d3:=HR5.out.c3
    go_wp2_with fail
    go_region
    (try simp only [Exit.then])
    go_wp2_with fail
    have HF4:=HF5.out.all (.int .i64 0) (.int .i64 0) (.string ⟨#[]⟩) (.slice none 0 0)
    have hgf:=grown_four w9 w.heap.size (.int .i64 0) (.int .i64 0) (.string ⟨#[]⟩) (.slice none 0 0)
    have HB4:=Lib.hid (HB5.out.grown hgf (by omega) (fun k e=>by cases e; exact Nat.le_refl _))
    clear b0 b1 b2 b3 g0 g1 g2 g3 n0 n1 n2 n3 d1 d3
    generalize ((((w9.setCell ⟨w.heap.size,0,none⟩ (.int .i64 0)).setCell ⟨w.heap.size,1,none⟩ (.int .i64 0)).setCell ⟨w.heap.size,2,none⟩ (.string ⟨#[]⟩)).setCell ⟨w.heap.size,3,none⟩ (.slice none 0 0))=w10 at *
    have HF4:Four w10.drew w.heap.size 70 (.int .i64 0) (.int .i64 0) (.string ⟨#[]⟩) (.slice none 0 0):=HF4
    have HB4:Hid (Below w.heap.size w w10.drew):=Lib.hid HB4.out.drew
    generalize w10.drew=w11 at *
    have e0:=HF4.c0
    have e1:=HF4.c1
    have e2:=HF4.c2
    have e3:=HF4.c3
    (try simp only [Exit.inBlock,Exit.then])
    refine bodyPost_ret (v:=.tuple #[.agg #[.int .i64 0,.int .i64 0,.string ⟨#[]⟩,.slice none 0 0],.int .i64 11,.int .i64 (yat:Int)]) ?_ rfl ?_
    ·rw [results_cell_tmps rfl]; go_simp
    ·rw [HST.out]; exact⟨_,rfl,zeroV_at _ _,HB4.out⟩
   ·have HST:Hid (g=⟨.mk vk vn vs vl,0,0⟩):=Lib.hid (by rw [hst,if_pos rfl,if_neg hat])
    have hati:(s.size:Int)≤(yat:Int):=by omega
    clear hst
    go_wp2_with fail
    have HF4:=HF3.out.all (.int .i64 vk) (.int .i64 vn) (.string vs) (.slice xa vl.length xc)
    have hgf:=grown_four (w1.alloc (.cells #[.int .i64 vk,.int .i64 vn,.string vs,.slice xa vl.length xc] 70)) w.heap.size (.int .i64 vk) (.int .i64 vn) (.string vs) (.slice xa vl.length xc)
    have HB4:=Lib.hid (HB3.out.grown hgf (by simp; omega) (fun k e=>by cases e; exact Nat.le_refl _))
    clear b0 b1 b2 b3 g0 g1 g2 g3 n0 n1 n2 n3 d1 d3
    generalize (w1.alloc (.cells #[.int .i64 vk,.int .i64 vn,.string vs,.slice xa vl.length xc] 70))=w9 at *
    generalize ((((w9.setCell ⟨w.heap.size,0,none⟩ (.int .i64 vk)).setCell ⟨w.heap.size,1,none⟩ (.int .i64 vn)).setCell ⟨w.heap.size,2,none⟩ (.string vs)).setCell ⟨w.heap.size,3,none⟩ (.slice xa vl.length xc))=w10 at *
    have e0:=HF4.c0
    have e1:=HF4.c1
    have e2:=HF4.c2
    have e3:=HF4.c3
    (try simp only [Exit.inBlock,Exit.then])
    refine bodyPost_ret (v:=.tuple #[.agg #[.int .i64 vk,.int .i64 vn,.string vs,.slice xa vl.length xc],.int .i64 0,.int .i64 0]) ?_ rfl ?_
    ·rw [results_cell_tmps rfl]; go_simp
    ·rw [HST.out]; exact⟨_,rfl,V.At.move (fun b (hb:_∧_)=>⟨Nat.le_of_succ_le hb.1,Nat.lt_of_lt_of_le hb.2 (Nat.le_trans HK.out.size hgf.size)⟩) (fun b (hb:_∧_)=>(hgf.block b (Nat.lt_of_lt_of_le hb.2 HK.out.size) (by have:=hb.1; simp; omega)).trans (HK.out.block b hb.2 (by simp))) _ _ HAT.out,HB4.out⟩
theorem get_any (s:ByteArray) (w:World) (hm:s.size≤9223372036854775807):Calls Tryz.prog 42 #[.string s] w (GetPost w (getL s)):=by
 unfold getL
 by_cases h:131072<s.size
 ·rw [if_pos h]; exact get_long s w hm h
 ·rw [if_neg h]; exact get_short s w (by omega) _ (Lib.hid rfl) _ (Lib.hid rfl)
end Go.Proofs.YtlpgbmaoenncjaaGreatDoor

namespace Go.Proofs.YtlpgbmaoenncjaaGreatDoor
open Go.RowKit
set_option linter.unusedVariables false
mutual
def V.cnt:V→Nat
 | .mk k n s l=>1+cntAll l
def cntAll:List V→Nat
 | []=>0
 | x :: r=>x.cnt+cntAll r
end
theorem cntAll_ge:∀ (l:List V),l.length≤cntAll l
 | []=>Nat.le_refl _
 | .mk k n s l' :: r=>by simp only [List.length_cons,cntAll,V.cnt]; have:=cntAll_ge r; omega
structure RS where
 many:Nat
 deepest:Nat
 ok:Bool
def rightOne (k n:Int) (s:ByteArray) (l:List V):Bool :=
 if k=1 then decide (s.size=0)&&decide (l.length=0)
 else if k=2 then decide (n=0)&&decide (l.length=0)
 else if k=3 then decide (n=0)&&decide (s.size=0) else false
mutual
def rightGo:V→Nat→RS→RS
 | .mk k n s l,deep,st=>if 4000<st.many+1 then ⟨st.many+1,max st.deepest deep,st.ok⟩ else rightAll l (deep+1) ⟨st.many+1,max st.deepest deep,st.ok&&rightOne k n s l⟩
def rightAll:List V→Nat→RS→RS
 | [],_,st=>st
 | x :: r,deep,st=>rightAll r deep (rightGo x deep st)
end
structure RtAt (w:World) (B:Nat) (st:RS):Prop where
 m:Boxed w B 3 (.int .i64 (st.many:Int))
 d:Boxed w (B+1) 3 (.int .i64 (st.deepest:Int))
 o:Boxed w (B+2) 4 (.bool st.ok)
 f:Boxed w (B+3) 163 (.func (.func 126) #[] #[.pointer (some ⟨B,0,none⟩),.pointer (some ⟨B+1,0,none⟩),.pointer (some ⟨B+2,0,none⟩),.pointer (some ⟨B+3,0,none⟩)])
structure Wrote (B:Nat) (w w':World):Prop where
 os:w'.os=w.os
 tape:w'.tape=w.tape
 output:w'.output=w.output
 size:w.heap.size≤w'.heap.size
 block:∀ k,k<w.heap.size→(k<B∨B+3<k)→w'.heap[k]? = w.heap[k]?
theorem Wrote.refl (B:Nat) (w:World):Wrote B w w:=⟨rfl,rfl,rfl,Nat.le_refl _,fun _ _ _=>rfl⟩
theorem Wrote.trans {B:Nat}{a b c:World}(h:Wrote B a b) (k:Wrote B b c):Wrote B a c :=
 ⟨k.os.trans h.os,k.tape.trans h.tape,k.output.trans h.output,Nat.le_trans h.size k.size,fun i hi hr=>(k.block i (Nat.lt_of_lt_of_le hi h.size) hr).trans (h.block i hi hr)⟩
theorem Wrote.grown {B:Nat}{a b c:World}{row:Option Nat}(h:Wrote B a b) (k:b.grownBy c row) (hr:∀ i,row=some i→a.heap.size≤i∨(B≤i∧i≤B+3)):Wrote B a c :=
 ⟨k.os.trans h.os,k.tape.trans h.tape,k.output.trans h.output,Nat.le_trans h.size k.size,fun i hi hb=>(k.block i (Nat.lt_of_lt_of_le hi h.size) (fun e=>by have:=hr i e.symm; omega)).trans (h.block i hi hb)⟩
theorem RtAt.kept {w w':World}{B:Nat}{st:RS}(h:RtAt w B st) {row:Option Nat}(hg:w.grownBy w' row) (hr:∀ i,row=some i→i<B∨B+3<i):RtAt w' B st :=
 ⟨h.m.kept hg (fun e=>by have:=hr _ e.symm; omega),h.d.kept hg (fun e=>by have:=hr _ e.symm; omega),h.o.kept hg (fun e=>by have:=hr _ e.symm; omega),h.f.kept hg (fun e=>by have:=hr _ e.symm; omega)⟩
theorem VAll.at {w:World}{S:Nat→Prop}{a:Option Addr}:∀ (i:Nat) (l:List V),VAll w S a i l→∀ (k:Nat) (h:k<l.length),∃ (b o:Nat) (cs:List Value),a=some ⟨b,o,none⟩∧S b∧V.At w S l[k] cs∧∀ j u,cs[j]? = some u→w.cell? ⟨b,o+(i+k)*4+j,none⟩=some u
 | i,x :: r,h,0,_=>by simp only [VAll] at h; exact h.1
 | i,x :: r,h,k+1,hk=>by
   simp only [VAll] at h
   have:=VAll.at (i+1) r h.2 k (by simpa using hk)
   rw [show i+(k+1)=i+1+k by omega]
   simpa using this
mutual
theorem rightGo_many:∀ (x:V) (deep:Nat) (st:RS),st.many+1≤(rightGo x deep st).many∧(rightGo x deep st).many≤st.many+x.cnt
 | .mk k n s l,deep,st=>by
   rw [rightGo,V.cnt]
   split
   ·exact⟨Nat.le_refl _,by dsimp only; omega⟩
   ·have:=rightAll_many l (deep+1) ⟨st.many+1,max st.deepest deep,st.ok&&rightOne k n s l⟩
    dsimp only at this
    omega
theorem rightAll_many:∀ (l:List V) (deep:Nat) (st:RS),st.many≤(rightAll l deep st).many∧(rightAll l deep st).many≤st.many+cntAll l
 | [],deep,st=>by rw [rightAll,cntAll]; exact⟨Nat.le_refl _,Nat.le_refl _⟩
 | x :: r,deep,st=>by
   rw [rightAll,cntAll]
   have h1:=rightGo_many x deep st
   have h2:=rightAll_many r deep (rightGo x deep st)
   omega
end
theorem cntAll_mem {l:List V}{x:V}(h:x∈l):x.cnt≤cntAll l:=by
 induction l with
 | nil=>cases h
 | cons y r ih =>
   rw [cntAll]
   rcases List.mem_cons.1 h with rfl | h
   ·omega
   ·have:=ih h; omega
theorem cntAll_drop {l:List V}{k:Nat}(h:k<l.length):cntAll (l.drop k)=l[k].cnt+cntAll (l.drop (k+1)):=by rw [List.drop_eq_getElem_cons h,cntAll]
theorem rightAll_drop {l:List V}{k:Nat}(h:k<l.length) (deep:Nat) (st:RS):rightAll (l.drop k) deep st=rightAll (l.drop (k+1)) deep (rightGo l[k] deep st):=by rw [List.drop_eq_getElem_cons h,rightAll]
theorem Wrote.at {B:Nat}{w w':World}{S:Nat→Prop}(h:Wrote B w w') (hS:∀ b,S b→b<w.heap.size∧(b<B∨B+3<b)) {x:V}{cs:List Value}(k:V.At w S x cs):V.At w' S x cs :=
 V.At.move (fun _ hb=>hb) (fun b hb=>h.block b (hS b hb).1 (hS b hb).2) _ _ k
def RPost (B:Nat) (x:RS) (w:World) (e:Ending) (w':World):Prop:=e = .returned (.tuple #[])∧RtAt w' B x∧Wrote B w w'
end Go.Proofs.YtlpgbmaoenncjaaGreatDoor
namespace Go.Proofs.YtlpgbmaoenncjaaGreatDoor
open Go.RowKit
set_option linter.unusedVariables false
set_option maxRecDepth 20000 in
set_option maxHeartbeats 4000000 in
theorem right1_far (B:Nat) (k n:Int) (s:ByteArray) (a:Option Addr) (c:Nat) (l:List V) (deep:Nat) (st:RS) (w:World) (h:RtAt w B st) (hB:B+3<w.heap.size) (hm:st.many≤4611686018427387904) (hf:4000<st.many+1) :
 Calls Tryz.prog 126 #[.agg #[.int .i64 k,.int .i64 n,.string s,.slice a l.length c],.int .i64 (deep:Int),.pointer (some ⟨B,0,none⟩),.pointer (some ⟨B+1,0,none⟩),.pointer (some ⟨B+2,0,none⟩),.pointer (some ⟨B+3,0,none⟩)] w
  (RPost B ⟨st.many+1,max st.deepest deep,st.ok⟩ w):=by
 have hmi:(st.many:Int)≤4611686018427387904:=by omega
 have hfi:(4000:Int)<(st.many:Int)+1:=by omega
 have H:=Lib.hid h
 have h2:=h.kept (World.grownBy_alloc w (.cells #[.int .i64 k,.int .i64 n,.string s,.slice a l.length c] 70) none) (fun i e=>by cases e)
 have m0:=h2.m.cell
 have m1:=h2.m.frozen
 have d0:=h2.d.cell
 have d1:=h2.d.frozen
 have HR0:=Lib.hid h2
 clear h h2
 go_enter Tryz.func126,Tryz.ntmps126
 go_wp2_with fail
 go_end0
 refine⟨rfl,⟨?_,?_,?_,?_⟩,(((Wrote.refl B w).grown (World.grownBy_alloc w _ none) (fun i e=>by cases e)).grown (grown_setCell _ B 0 _) (fun i e=>by cases e; omega)).grown (grown_setCell _ (B+1) 0 _) (fun i e=>by cases e; omega)⟩
 ·show Boxed _ B 3 (.int .i64 ((st.many+1:Nat):Int))
  rw [Int.natCast_add]
  exact (HR0.out.m.set _).kept (grown_setCell _ (B+1) 0 _) (by simp)
 ·show Boxed _ (B+1) 3 (.int .i64 ((max st.deepest deep:Nat):Int))
  rw [show ((max st.deepest deep:Nat):Int)=max (st.deepest:Int) (deep:Int) by omega]
  exact (HR0.out.d.kept (grown_setCell _ B 0 _) (by simp)).set _
 ·exact (HR0.out.o.kept (grown_setCell _ B 0 _) (by simp)).kept (grown_setCell _ (B+1) 0 _) (by simp)
 ·exact (HR0.out.f.kept (grown_setCell _ B 0 _) (by simp)).kept (grown_setCell _ (B+1) 0 _) (by simp)
end Go.Proofs.YtlpgbmaoenncjaaGreatDoor
namespace Go.Proofs.YtlpgbmaoenncjaaGreatDoor
open Go.RowKit
set_option linter.unusedVariables false
set_option maxRecDepth 20000 in
set_option maxHeartbeats 4000000 in
theorem right1_near (B:Nat) (k n:Int) (s:ByteArray) (a:Option Addr) (c:Nat) (l:List V) (deep:Nat) (st:RS) (w:World) (h:RtAt w B st) (hB:B+3<w.heap.size) (hf:¬ 4000<st.many+1)
 (S:Nat→Prop) (hS:Hid (∀ b,S b→b<w.heap.size∧(b<B∨B+3<b))) (hc:l.length≤c) (hall:Hid (VAll w S a 0 l)) (hcnt:st.many+1+cntAll l≤4611686018427387904) (hdeep:deep≤st.many+1)
 (IH:Hid (∀ y∈l,∀ (cs:List Value) (deep:Nat) (st:RS) (w:World),RtAt w B st→B+3<w.heap.size→(∀ b,S b→b<w.heap.size∧(b<B∨B+3<b))→V.At w S y cs→st.many+y.cnt≤4611686018427387904→deep≤st.many+1 →
   Calls Tryz.prog 126 #[.agg cs.toArray,.int .i64 (deep:Int),.pointer (some ⟨B,0,none⟩),.pointer (some ⟨B+1,0,none⟩),.pointer (some ⟨B+2,0,none⟩),.pointer (some ⟨B+3,0,none⟩)] w (RPost B (rightGo y deep st) w)))
 (x:RS) (hx:Hid (x=rightAll l (deep+1) ⟨st.many+1,max st.deepest deep,st.ok&&rightOne k n s l⟩)) :
 Calls Tryz.prog 126 #[.agg #[.int .i64 k,.int .i64 n,.string s,.slice a l.length c],.int .i64 (deep:Int),.pointer (some ⟨B,0,none⟩),.pointer (some ⟨B+1,0,none⟩),.pointer (some ⟨B+2,0,none⟩),.pointer (some ⟨B+3,0,none⟩)] w (RPost B x w):=by
 have hmi:(st.many:Int)+1≤4000:=by omega
 have H:=Lib.hid h
 have h2:=h.kept (World.grownBy_alloc w (.cells #[.int .i64 k,.int .i64 n,.string s,.slice a l.length c] 70) none) (fun i e=>by cases e)
 have m0:=h2.m.cell
 have m1:=h2.m.frozen
 have d0:=h2.d.cell
 have d1:=h2.d.frozen
 have o0:=h2.o.cell
 have o1:=h2.o.frozen
 have HN:=Lib.hid (Four.new w 70 (.int .i64 k) (.int .i64 n) (.string s) (.slice a l.length c))
 have n0:=HN.out.c0
 have n1:=HN.out.c1
 have n2:=HN.out.c2
 have n3:=HN.out.c3
 have HR0:=Lib.hid h2
 clear h h2
 go_enter Tryz.func126,Tryz.ntmps126
 go_upto_block 0 with fail
 have HR1:Hid (RtAt (((w.alloc (.cells #[.int .i64 k,.int .i64 n,.string s,.slice a l.length c] 70)).setCell ⟨B,0,none⟩ (.int .i64 ((st.many:Int)+1))).setCell ⟨B+1,0,none⟩ (.int .i64 (max (st.deepest:Int) (deep:Int)))) B ⟨st.many+1,max st.deepest deep,st.ok⟩):=by
  refine Lib.hid ⟨?_,?_,?_,?_⟩
  ·show Boxed _ B 3 (.int .i64 ((st.many+1:Nat):Int))
   rw [Int.natCast_add]
   exact (HR0.out.m.set _).kept (grown_setCell _ (B+1) 0 _) (by simp)
  ·show Boxed _ (B+1) 3 (.int .i64 ((max st.deepest deep:Nat):Int))
   rw [show ((max st.deepest deep:Nat):Int)=max (st.deepest:Int) (deep:Int) by omega]
   exact (HR0.out.d.kept (grown_setCell _ B 0 _) (by simp)).set _
  ·exact (HR0.out.o.kept (grown_setCell _ B 0 _) (by simp)).kept (grown_setCell _ (B+1) 0 _) (by simp)
  ·exact (HR0.out.f.kept (grown_setCell _ B 0 _) (by simp)).kept (grown_setCell _ (B+1) 0 _) (by simp)
 have HW1:Hid (Wrote B w (((w.alloc (.cells #[.int .i64 k,.int .i64 n,.string s,.slice a l.length c] 70)).setCell ⟨B,0,none⟩ (.int .i64 ((st.many:Int)+1))).setCell ⟨B+1,0,none⟩ (.int .i64 (max (st.deepest:Int) (deep:Int))))):=Lib.hid ((((Wrote.refl B w).grown (World.grownBy_alloc w _ none) (fun i e=>by cases e)).grown (grown_setCell _ B 0 _) (fun i e=>by cases e; omega)).grown (grown_setCell _ (B+1) 0 _) (fun i e=>by cases e; omega))
 have HN1:Hid (Four (((w.alloc (.cells #[.int .i64 k,.int .i64 n,.string s,.slice a l.length c] 70)).setCell ⟨B,0,none⟩ (.int .i64 ((st.many:Int)+1))).setCell ⟨B+1,0,none⟩ (.int .i64 (max (st.deepest:Int) (deep:Int)))) w.heap.size 70 (.int .i64 k) (.int .i64 n) (.string s) (.slice a l.length c)):=Lib.hid ((HN.out.kept (grown_setCell _ B 0 _) (by simp; omega)).kept (grown_setCell _ (B+1) 0 _) (by simp; omega))
 clear m0 m1 d0 d1 o0 o1 n0 n1 n2 n3
 generalize (((w.alloc (.cells #[.int .i64 k,.int .i64 n,.string s,.slice a l.length c] 70)).setCell ⟨B,0,none⟩ (.int .i64 ((st.many:Int)+1))).setCell ⟨B+1,0,none⟩ (.int .i64 (max (st.deepest:Int) (deep:Int))))=w1 at *
 clear HR0 HN
 go_cut [] (fun w'=>Hid (RtAt w' B ⟨st.many+1,max st.deepest deep,st.ok&&rightOne k n s l⟩)∧Hid (Wrote B w w')∧Hid (Four w' w.heap.size 70 (.int .i64 k) (.int .i64 n) (.string s) (.slice a l.length c)))
 case first =>
  have o0:=HR1.out.o.cell
  have o1:=HR1.out.o.frozen
  have n0:=HN1.out.c0
  have n1:=HN1.out.c1
  have n2:=HN1.out.c2
  have n3:=HN1.out.c3
  have fin:Hid (∀ v:Bool,v=(st.ok&&rightOne k n s l)→Hid (RtAt (w1.setCell ⟨B+2,0,none⟩ (.bool v)) B ⟨st.many+1,max st.deepest deep,st.ok&&rightOne k n s l⟩)∧Hid (Wrote B w (w1.setCell ⟨B+2,0,none⟩ (.bool v)))∧Hid (Four (w1.setCell ⟨B+2,0,none⟩ (.bool v)) w.heap.size 70 (.int .i64 k) (.int .i64 n) (.string s) (.slice a l.length c))):=by
   refine Lib.hid fun v hv=>?_
   subst hv
   have hg:=grown_setCell w1 (B+2) 0 (.bool (st.ok&&rightOne k n s l))
   exact⟨Lib.hid ⟨HR1.out.m.kept hg (by simp),HR1.out.d.kept hg (by simp),HR1.out.o.set _,HR1.out.f.kept hg (by simp)⟩,Lib.hid (HW1.out.grown hg (fun i e=>by cases e; omega)),Lib.hid (HN1.out.kept hg (by simp; omega))⟩
  have hlen:∀ z:List V,z.length=0→((z.length:Int)==0)=true:=fun z h=>by rw [h]; rfl
  have hlen2:∀ z:List V,z.length≠0→((z.length:Int)==0)=false:=fun z h=>by rw [beq_eq_false_iff_ne]; omega
  have HL1:=Lib.hid hlen
  have HL2:=Lib.hid hlen2
  clear hlen hlen2
  cases hok:st.ok with
  | false =>
    rw [hok] at o0
    have HOK:=Lib.hid hok
    clear hok
    by_cases h1:k=1
    ·subst h1
     go_wp2_with fail
     go_meet
     exact fin.out false (by rw [HOK.out]; rfl)
    ·by_cases h2:k=2
     ·subst h2
      clear h1
      go_wp2_with fail
      go_meet
      exact fin.out false (by rw [HOK.out]; rfl)
     ·by_cases h3:k=3
      ·subst h3
       clear h1 h2
       go_wp2_with fail
       go_meet
       exact fin.out false (by rw [HOK.out]; rfl)
      ·have p1:(k==1)=false:=by simpa using h1
       have p2:(k==2)=false:=by simpa using h2
       have p3:(k==3)=false:=by simpa using h3
       clear h1 h2 h3
       go_wp2_with fail
       go_meet
       exact fin.out false (by rw [HOK.out]; rfl)
  | true =>
    rw [hok] at o0
    have HOK:=Lib.hid hok
    clear hok
    by_cases h1:k=1
    ·subst h1
     by_cases hs0:s.size=0
     ·obtain rfl:=size0 hs0
      by_cases hl:l.length=0
      ·have p1:=HL1.out l hl
       have R:Hid (rightOne 1 n ⟨#[]⟩ l=true):=Lib.hid (by simp [rightOne,hl]; rfl)
       clear hl hs0
       go_wp2_with fail
       go_meet
       exact fin.out true (by rw [HOK.out,R.out]; rfl)
      ·have p1:=HL2.out l hl
       have R:Hid (rightOne 1 n ⟨#[]⟩ l=false):=Lib.hid (by simp only [rightOne,if_pos]; simp [hl])
       clear hl hs0
       go_wp2_with fail
       go_meet
       exact fin.out false (by rw [HOK.out,R.out]; rfl)
     ·have e1:=isEmpty_no hs0
      have e2:=eqNil_no hs0
      have R:Hid (rightOne 1 n s l=false):=Lib.hid (by simp [rightOne,hs0])
      clear hs0
      go_wp2_with fail
      go_meet
      exact fin.out false (by rw [HOK.out,R.out]; rfl)
    ·by_cases h2:k=2
     ·subst h2
      clear h1
      by_cases hn:n=0
      ·subst hn
       by_cases hl:l.length=0
       ·have p1:=HL1.out l hl
        have R:Hid (rightOne 2 0 s l=true):=Lib.hid (by simp [rightOne,hl])
        clear hl
        go_wp2_with fail
        go_meet
        exact fin.out true (by rw [HOK.out,R.out]; rfl)
       ·have p1:=HL2.out l hl
        have R:Hid (rightOne 2 0 s l=false):=Lib.hid (by simp [rightOne]; simpa using hl)
        clear hl
        go_wp2_with fail
        go_meet
        exact fin.out false (by rw [HOK.out,R.out]; rfl)
      ·have p2:(n==0)=false:=by simpa using hn
       have R:Hid (rightOne 2 n s l=false):=Lib.hid (by simp [rightOne,hn])
       clear hn
       go_wp2_with fail
       go_meet
       exact fin.out false (by rw [HOK.out,R.out]; rfl)
     ·by_cases h3:k=3
      ·subst h3
       clear h1 h2
       by_cases hn:n=0
       ·subst hn
        by_cases hs0:s.size=0
        ·obtain rfl:=size0 hs0
         clear hs0
         have R:Hid (rightOne 3 0 ⟨#[]⟩ l=true):=Lib.hid (by simp [rightOne]; rfl)
         go_wp2_with fail
         go_meet
         exact fin.out true (by rw [HOK.out,R.out]; rfl)
        ·have e1:=isEmpty_no hs0
         have e2:=eqNil_no hs0
         have R:Hid (rightOne 3 0 s l=false):=Lib.hid (by simp [rightOne,hs0])
         clear hs0
         go_wp2_with fail
         go_meet
         exact fin.out false (by rw [HOK.out,R.out]; rfl)
       ·have p2:(n==0)=false:=by simpa using hn
        have R:Hid (rightOne 3 n s l=false):=Lib.hid (by simp [rightOne,hn])
        clear hn
        go_wp2_with fail
        go_meet
        exact fin.out false (by rw [HOK.out,R.out]; rfl)
      ·have p1:(k==1)=false:=by simpa using h1
       have p2:(k==2)=false:=by simpa using h2
       have p3:(k==3)=false:=by simpa using h3
       have R:Hid (rightOne k n s l=false):=Lib.hid (by simp [rightOne,h1,h2,h3])
       clear h1 h2 h3
       go_wp2_with fail
       go_meet
       exact fin.out false (by rw [HOK.out,R.out]; rfl)
 case rest =>
  obtain⟨hR,hW,hN⟩:=hcut
  clear HR1 HW1 HN1
  have n0:=hN.out.c0
  have n1:=hN.out.c1
  have n2:=hN.out.c2
  have n3:=hN.out.c3
  have hll:=cntAll_ge l
  go_wp2_with fail
  go_loopg [63] l.length (fun gk v wr=>∃ (i:Nat) (sx:RS),i≤l.length∧gk=l.length - i∧v = .int .i64 (i:Int)∧st.many+1≤sx.many∧sx.many+cntAll (l.drop i)≤4611686018427387904∧Hid (RtAt wr B sx)∧Hid (Wrote B w wr)∧Hid (x=rightAll (l.drop i) (deep+1) sx))
  case atStart=>exact⟨0,_,Nat.zero_le _,rfl,rfl,Nat.le_refl _,by simpa using hcnt,hR,hW,hx⟩
  case round =>
   obtain⟨i,sx,hi,rfl,rfl,hsx,hsc,hR2,hW2,hX⟩:=hrel
   clear n0 n1 n2 n3
   by_cases hlt:i<l.length
   ·have hlti:(i:Int)<(l.length:Int):=by omega
    obtain⟨b,o,cs,rfl,hb,hat,hcell⟩:=VAll.at 0 l hall.out i hlt
    have hih:=IH.out l[i] (List.getElem_mem hlt)
    have hcd:=cntAll_drop hlt
    have hst:=hX.out
    rw [rightAll_drop hlt] at hst
    have hmany:=rightGo_many l[i] (deep+1) sx
    generalize l[i]=y at *
    obtain⟨yk,yn,ys,yl⟩:=y
    have hat':=hat
    simp only [V.At] at hat
    obtain⟨ya,yc,rfl,-,-,-⟩:=hat
    have hcell2:∀ j u,[Value.int .i64 yk,.int .i64 yn,.string ys,.slice ya yl.length yc][j]? = some u→wr.cell? ⟨b,o+i*4+j,none⟩=some u:=fun j u hj=>by
     have:=hcell j u hj
     rw [Nat.zero_add] at this
     exact (World.cell?_of_block (hW2.out.block b (hS.out b hb).1 (hS.out b hb).2)).trans this
    have e0:=hcell2 0 _ rfl
    have e1:=hcell2 1 _ rfl
    have e2:=hcell2 2 _ rfl
    have e3:=hcell2 3 _ rfl
    rw [Nat.add_zero] at e0
    have HN3:=Lib.hid (Four.new wr 70 (.int .i64 yk) (.int .i64 yn) (.string ys) (.slice ya yl.length yc))
    have HR3:=Lib.hid (hR2.out.kept (World.grownBy_alloc wr (.cells #[.int .i64 yk,.int .i64 yn,.string ys,.slice ya yl.length yc] 70) none) (fun i e=>by cases e))
    have HW3:=Lib.hid (hW2.out.grown (World.grownBy_alloc wr (.cells #[.int .i64 yk,.int .i64 yn,.string ys,.slice ya yl.length yc] 70) none) (fun i e=>by cases e))
    have f0:=HR3.out.f.cell
    have n0:=HN3.out.c0
    have n1:=HN3.out.c1
    have n2:=HN3.out.c2
    have n3:=HN3.out.c3
    have HIH:=Lib.hid hih
    have HAT:=Lib.hid hat'
    have HST:=Lib.hid hst
    have HM:=Lib.hid hmany
    have hdi:(deep:Int)≤4611686018427387904:=by omega
    have HC:=Lib.hid hcd
    clear hih hat' hst hmany hcell hcell2 hcd
    go_wp2_with fail
    have hsz3:=hW2.out.size
    refine (HIH.out _ (deep+1) sx _ HR3.out (by rw [World.size_alloc]; omega) (fun b' hb'=>⟨by rw [World.size_alloc]; have:=(hS.out b' hb').1; omega,(hS.out b' hb').2⟩) (HW3.out.at hS.out HAT.out) (by have:=HC.out; omega) (by omega)).mono ?_
    rintro e w4 ⟨rfl,hr4,hw4⟩
    have HR4:=Lib.hid hr4
    have HW4:=Lib.hid (HW3.out.trans hw4)
    clear hr4 hw4 e0 e1 e2 e3 f0 n0 n1 n2 n3
    go_wp2_with fail
    go_roundg (l.length - (i+1))
    case rel=>exact⟨i+1,_,hlt,rfl,by go_num,by have:=HM.out; omega,by have:=HM.out; have:=HC.out; omega,HR4,HW4,HST⟩
    case measure=>omega
   ·obtain rfl:i=l.length:=by omega
    have HX:Hid (x=sx):=Lib.hid (by rw [hX.out,List.drop_length,rightAll])
    go_wp2_with fail
    go_end0
    rw [HX.out]
    exact⟨rfl,hR2.out,hW2.out⟩
end Go.Proofs.YtlpgbmaoenncjaaGreatDoor
namespace Go.Proofs.YtlpgbmaoenncjaaGreatDoor
open Go.RowKit
set_option linter.unusedVariables false
theorem right1_any:∀ (f:Nat) (x:V),x.cnt≤f→∀ (S:Nat→Prop) (B:Nat) (cs:List Value) (deep:Nat) (st:RS) (w:World),RtAt w B st→B+3<w.heap.size→(∀ b,S b→b<w.heap.size∧(b<B∨B+3<b))→V.At w S x cs→st.many+x.cnt≤4611686018427387904→deep≤st.many+1 →
 Calls Tryz.prog 126 #[.agg cs.toArray,.int .i64 (deep:Int),.pointer (some ⟨B,0,none⟩),.pointer (some ⟨B+1,0,none⟩),.pointer (some ⟨B+2,0,none⟩),.pointer (some ⟨B+3,0,none⟩)] w (RPost B (rightGo x deep st) w)
 | 0,.mk k n s l,hf,_,_,_,_,_,_,_,_,_,_,_,_=>by simp only [V.cnt] at hf; omega
 | f+1,.mk k n s l,hf,S,B,cs,deep,st,w,h,hB,hS,hat,hcnt,hdeep=>by
   simp only [V.cnt] at hf hcnt
   simp only [V.At] at hat
   obtain⟨a,c,rfl,hc,-,hall⟩:=hat
   rw [rightGo]
   by_cases hfar:4000<st.many+1
   ·rw [if_pos hfar]
    exact right1_far B k n s a c l deep st w h hB (by omega) hfar
   ·rw [if_neg hfar]
    refine right1_near B k n s a c l deep st w h hB hfar S (Lib.hid hS) hc (Lib.hid hall) (by omega) hdeep (Lib.hid ?_) _ (Lib.hid rfl)
    intro y hy cs2 deep2 st2 w2 h2 hB2 hS2 hat2 hcnt2 hdeep2
    exact right1_any f y (by have:=cntAll_mem hy; omega) S B cs2 deep2 st2 w2 h2 hB2 hS2 hat2 hcnt2 hdeep2
theorem Boxed.fresh {w:World}{n:Nat}(h:w.heap.size=n) (t:TypeId) (v:Value):Boxed (w.alloc (.cells #[v] t)) n t v:=h ▸ Boxed.new w t v
def rightL (x:V):Int :=
 let z:=rightGo x 1 ⟨0,0,true⟩
 if 4000<z.many then 2 else if 30<z.deepest then 12 else if z.ok then 0 else 1
set_option maxRecDepth 20000 in
set_option maxHeartbeats 4000000 in
theorem right_any (S:Nat→Prop) (x:V) (cs:List Value) (w:World) (hS:∀ b,S b→b<w.heap.size) (hat:V.At w S x cs) (hcnt:x.cnt≤4611686018427387904) (y:Int) (hy:Hid (y=rightL x)) :
 Calls Tryz.prog 75 #[.agg cs.toArray] w (fun e w'=>e = .returned (.int .i64 y)∧Below w.heap.size w w'):=by
 have H:Hid (∀ (w5:World) (B:Nat),RtAt w5 B ⟨0,0,true⟩→B+3<w5.heap.size→(∀ b,S b→b<w5.heap.size∧(b<B∨B+3<b))→V.At w5 S x cs →
  Calls Tryz.prog 126 #[.agg cs.toArray,.int .i64 ((1:Nat):Int),.pointer (some ⟨B,0,none⟩),.pointer (some ⟨B+1,0,none⟩),.pointer (some ⟨B+2,0,none⟩),.pointer (some ⟨B+3,0,none⟩)] w5 (RPost B (rightGo x 1 ⟨0,0,true⟩) w5)) :=
  Lib.hid fun w5 B h1 h2 h3 h4=>right1_any x.cnt x (Nat.le_refl _) S B cs 1 ⟨0,0,true⟩ w5 h1 h2 h3 h4 (show 0+x.cnt≤4611686018427387904 by rw [Nat.zero_add]; exact hcnt) (show 1≤0+1 from Nat.le_refl 1)
 have HZ:Hid (y=if 4000<(rightGo x 1 ⟨0,0,true⟩).many then 2 else if 30<(rightGo x 1 ⟨0,0,true⟩).deepest then 12 else if (rightGo x 1 ⟨0,0,true⟩).ok then 0 else 1):=hy
 have HM:=rightGo_many x 1 ⟨0,0,true⟩
 generalize rightGo x 1 ⟨0,0,true⟩=z at H HZ HM
 have HMm:=Lib.hid HM
 have HAT:=Lib.hid hat
 have HS:=Lib.hid hS
 clear HM hy hS
 obtain⟨k,n,s,l⟩:=x
 simp only [V.At] at hat
 obtain⟨a,c,rfl,-,-,-⟩:=hat
 have hmf:∀ fn first cap w,(Instr.makeFunc fn first cap).run Tryz.prog w = .ok (.func fn first cap) w:=fun _ _ _ _=>rfl
 go_enter Tryz.func75,Tryz.ntmps75
 go_wp2_with fail
 have HR5:Hid (RtAt (((((w.alloc (.cells #[.int .i64 k,.int .i64 n,.string s,.slice a l.length c] 70)).alloc (.cells #[.int .i64 0] 3)).alloc (.cells #[.int .i64 0] 3)).alloc (.cells #[.bool true] 4)).alloc (.cells #[.func (.func 126) #[] #[.pointer (some ⟨w.heap.size+1,0,none⟩),.pointer (some ⟨w.heap.size+1+1,0,none⟩),.pointer (some ⟨w.heap.size+1+1+1,0,none⟩),.pointer (some ⟨w.heap.size+1+1+1+1,0,none⟩)]] 163)) (w.heap.size+1) ⟨0,0,true⟩):=by
  refine Lib.hid ⟨?_,?_,?_,?_⟩
  ·exact (((Boxed.fresh (by simp) _ _).alloc _).alloc _).alloc _
  ·exact ((Boxed.fresh (by simp) _ _).alloc _).alloc _
  ·exact (Boxed.fresh (by simp) _ _).alloc _
  ·exact Boxed.fresh (by simp) _ _
 have HB5:Hid (Below w.heap.size w (((((w.alloc (.cells #[.int .i64 k,.int .i64 n,.string s,.slice a l.length c] 70)).alloc (.cells #[.int .i64 0] 3)).alloc (.cells #[.int .i64 0] 3)).alloc (.cells #[.bool true] 4)).alloc (.cells #[.func (.func 126) #[] #[.pointer (some ⟨w.heap.size+1,0,none⟩),.pointer (some ⟨w.heap.size+1+1,0,none⟩),.pointer (some ⟨w.heap.size+1+1+1,0,none⟩),.pointer (some ⟨w.heap.size+1+1+1+1,0,none⟩)]] 163))):=Lib.hid ((((((Below.refl w.heap.size w).alloc (Nat.le_refl _) _).alloc (by simp) _).alloc (by simp; omega) _).alloc (by simp; omega) _).alloc (by simp; omega) _)
 have hsz:(((((w.alloc (.cells #[.int .i64 k,.int .i64 n,.string s,.slice a l.length c] 70)).alloc (.cells #[.int .i64 0] 3)).alloc (.cells #[.int .i64 0] 3)).alloc (.cells #[.bool true] 4)).alloc (.cells #[.func (.func 126) #[] #[.pointer (some ⟨w.heap.size+1,0,none⟩),.pointer (some ⟨w.heap.size+1+1,0,none⟩),.pointer (some ⟨w.heap.size+1+1+1,0,none⟩),.pointer (some ⟨w.heap.size+1+1+1+1,0,none⟩)]] 163)).heap.size=w.heap.size+5:=by simp
 have hat5:=V.At.move (w':=((((w.alloc (.cells #[.int .i64 k,.int .i64 n,.string s,.slice a l.length c] 70)).alloc (.cells #[.int .i64 0] 3)).alloc (.cells #[.int .i64 0] 3)).alloc (.cells #[.bool true] 4)).alloc (.cells #[.func (.func 126) #[] #[.pointer (some ⟨w.heap.size+1,0,none⟩),.pointer (some ⟨w.heap.size+1+1,0,none⟩),.pointer (some ⟨w.heap.size+1+1+1,0,none⟩),.pointer (some ⟨w.heap.size+1+1+1+1,0,none⟩)]] 163)) (fun _ h=>h) (fun b hb=>HB5.out.block b (HS.out b hb)) _ _ HAT.out
 have hcall:=H.out _ (w.heap.size+1) HR5.out (by rw [hsz]; omega) (fun b hb=>⟨by rw [hsz]; have:=HS.out b hb; omega,.inl (by have:=HS.out b hb; omega)⟩) hat5
 have HCALL:=Lib.hid hcall
 clear H hat5 hcall
 generalize ((((w.alloc (.cells #[.int .i64 k,.int .i64 n,.string s,.slice a l.length c] 70)).alloc (.cells #[.int .i64 0] 3)).alloc (.cells #[.int .i64 0] 3)).alloc (.cells #[.bool true] 4)).alloc (.cells #[.func (.func 126) #[] #[.pointer (some ⟨w.heap.size+1,0,none⟩),.pointer (some ⟨w.heap.size+1+1,0,none⟩),.pointer (some ⟨w.heap.size+1+1+1,0,none⟩),.pointer (some ⟨w.heap.size+1+1+1+1,0,none⟩)]] 163)=w5 at *
 refine HCALL.out.mono ?_
 clear HCALL HR5 HAT
 rintro e w6 ⟨rfl,hr6,hw6⟩
 have m0:=hr6.m.cell
 have d0:=hr6.d.cell
 have o0:=hr6.o.cell
 have HB6:Hid (Below w.heap.size w w6):=Lib.hid (HB5.out.trans ⟨hw6.os,hw6.tape,hw6.output,hw6.size,fun i hi=>hw6.block i (by omega) (.inl (by omega))⟩)
 clear hr6 hw6 HB5
 obtain⟨zm,zd,zo⟩:=z
 have hy:=HZ.out
 clear HZ
 dsimp only at hy m0 d0 o0
 by_cases h1:4000<zm
 ·have h1i:(4000:Int)<(zm:Int):=by omega
  have HY:Hid (y=2):=Lib.hid (by rw [hy,if_pos h1])
  clear hy h1
  go_wp2_with fail
  go_ret
  exact⟨by rw [HY.out]; rfl,HB6.out⟩
 ·have h1i:(zm:Int)≤4000:=by omega
  rw [if_neg h1] at hy
  by_cases h2:30<zd
  ·have h2i:(30:Int)<(zd:Int):=by omega
   have HY:Hid (y=12):=Lib.hid (by rw [hy,if_pos h2])
   clear hy h1 h2
   go_wp2_with fail
   go_ret
   exact⟨by rw [HY.out]; rfl,HB6.out⟩
  ·have h2i:(zd:Int)≤30:=by omega
   rw [if_neg h2] at hy
   cases zo with
   | true =>
     have HY:Hid (y=0):=Lib.hid (by rw [hy]; rfl)
     clear hy h1 h2
     go_wp2_with fail
     go_ret
     exact⟨by rw [HY.out]; rfl,HB6.out⟩
   | false =>
     have HY:Hid (y=1):=Lib.hid (by rw [hy]; rfl)
     clear hy h1 h2
     go_wp2_with fail
     go_ret
     exact⟨by rw [HY.out]; rfl,HB6.out⟩
end Go.Proofs.YtlpgbmaoenncjaaGreatDoor

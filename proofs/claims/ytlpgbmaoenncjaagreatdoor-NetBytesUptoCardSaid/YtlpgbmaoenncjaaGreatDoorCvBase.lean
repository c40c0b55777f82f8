/-
  code.reader in memory, and the walks of its fail and must.
  Values (api.Val) in memory: four cells, the last one the slice of the values within; without a condition.
  The walk of code.reader's digits: the number that stands there, or what is wrong.
  The walk of code.reader's number. (Written by wip/mknum.py.)
  What code.reader's value reads, by definition; without a condition.
-/
import Derived.Test.YtlpgbmaoenncjaaGreatDoorGen
import Derived.Deep.LoopGhost
namespace Go.Proofs.YtlpgbmaoenncjaaGreatDoor
open Go.RowKit
set_option linter.unusedVariables false
structure RdAt (w:World) (r:Nat) (s:ByteArray) (a m b:Int):Prop where
 lt:r<w.heap.size
 c0:w.cell? ⟨r,0,none⟩=some (.string s)
 c1:w.cell? ⟨r,1,none⟩=some (.int .i64 a)
 c2:w.cell? ⟨r,2,none⟩=some (.int .i64 m)
 c3:w.cell? ⟨r,3,none⟩=some (.int .i64 b)
 free:∀ j,j<4→w.frozen? ⟨r,j,none⟩=false
theorem RdAt.drewN {w:World}{r:Nat}{s:ByteArray}{a m b:Int}(h:RdAt w r s a m b) (n:Nat):RdAt (w.drewN n) r s a m b:=⟨h.lt,h.c0,h.c1,h.c2,h.c3,h.free⟩
theorem RdAt.kept {w w':World}{r:Nat}{s:ByteArray}{a m b:Int}(h:RdAt w r s a m b) {row:Option Nat}(hg:w.grownBy w' row) (hr:some r≠row):RdAt w' r s a m b:=by
 have hb:=hg.block r h.lt hr
 exact⟨Nat.lt_of_lt_of_le h.lt hg.size,hg.cell h.c0 hr,hg.cell h.c1 hr,hg.cell h.c2 hr,hg.cell h.c3 hr,fun j hj=>by rw [World.frozen?_of_block (a:=⟨r,j,none⟩) hb]; exact h.free j hj⟩
theorem RdAt.alloc {w:World}{r:Nat}{s:ByteArray}{a m b:Int}(h:RdAt w r s a m b) (o:Obj):RdAt (w.alloc o) r s a m b:=h.kept (World.grownBy_alloc w o none) (by simp)
theorem addr_ne {r i j:Nat}(h:i≠j):(⟨r,i,none⟩:Addr)≠⟨r,j,none⟩:=fun e=>h (congrArg Addr.off e)
theorem RdAt.setAt {w:World}{r:Nat}{s:ByteArray}{a m b:Int}(h:RdAt w r s a m b) (a':Int):RdAt (w.setCell ⟨r,1,none⟩ (.int .i64 a')) r s a' m b :=
 ⟨by simpa using h.lt,by rw [World.cell?_setCell_other w _ _ _ (addr_ne (by decide))]; exact h.c0,World.cell?_setCell_same w _ _ h.c1,by rw [World.cell?_setCell_other w _ _ _ (addr_ne (by decide))]; exact h.c2,
   by rw [World.cell?_setCell_other w _ _ _ (addr_ne (by decide))]; exact h.c3,fun j hj=>by rw [World.frozen?_setCell]; exact h.free j hj⟩
theorem RdAt.setMany {w:World}{r:Nat}{s:ByteArray}{a m b:Int}(h:RdAt w r s a m b) (m':Int):RdAt (w.setCell ⟨r,2,none⟩ (.int .i64 m')) r s a m' b :=
 ⟨by simpa using h.lt,by rw [World.cell?_setCell_other w _ _ _ (addr_ne (by decide))]; exact h.c0,by rw [World.cell?_setCell_other w _ _ _ (addr_ne (by decide))]; exact h.c1,World.cell?_setCell_same w _ _ h.c2,
   by rw [World.cell?_setCell_other w _ _ _ (addr_ne (by decide))]; exact h.c3,fun j hj=>by rw [World.frozen?_setCell]; exact h.free j hj⟩
theorem RdAt.setBad {w:World}{r:Nat}{s:ByteArray}{a m b:Int}(h:RdAt w r s a m b) (b':Int):RdAt (w.setCell ⟨r,3,none⟩ (.int .i64 b')) r s a m b' :=
 ⟨by simpa using h.lt,by rw [World.cell?_setCell_other w _ _ _ (addr_ne (by decide))]; exact h.c0,by rw [World.cell?_setCell_other w _ _ _ (addr_ne (by decide))]; exact h.c1,by rw [World.cell?_setCell_other w _ _ _ (addr_ne (by decide))]; exact h.c2,
   World.cell?_setCell_same w _ _ h.c3,fun j hj=>by rw [World.frozen?_setCell]; exact h.free j hj⟩
set_option maxHeartbeats 1000000 in
theorem fail_any (r:Nat) (s:ByteArray) (a m x:Int) (w:World) (h:RdAt w r s a m 0) :
 Calls Tryz.prog 93 #[.pointer (some ⟨r,0,none⟩),.int .i64 x] w fun e w'=>e = .returned (.bool false)∧RdAt w' r s a m x∧w.grownBy w' (some r):=by
 have H:=Lib.hid h
 have c3:=h.c3
 have f3:=h.free 3 (by decide)
 clear h
 go_enter Tryz.func93,Tryz.ntmps93
 go_wp2_with fail
 go_ret
 exact⟨rfl,H.out.setBad x,grown_setCell _ _ _ _⟩
def mustL (s:ByteArray) (a:Nat) (c:UInt8):Bool × Nat × Int :=
 if h:a<s.size then (if s[a]=c then (true,a+1,0) else (false,a,11)) else (false,a,10)
set_option maxHeartbeats 2000000 in
theorem must_any (r:Nat) (s:ByteArray) (a:Nat) (m:Int) (c:UInt8) (w:World) (h:RdAt w r s a m 0) (hs:s.size≤maxLen) (x:Bool × Nat × Int) (hx:Hid (x=mustL s a c)) :
 Calls Tryz.prog 136 #[.pointer (some ⟨r,0,none⟩),.int .u8 (c.toNat:Int)] w fun e w'=>e = .returned (.bool x.1)∧RdAt w' r s (x.2.1:Int) m x.2.2∧w.grownBy w' (some r):=by
 unfold maxLen at hs
 have H:=Lib.hid h
 have c0:=h.c0
 have c1:=h.c1
 have f1:=h.free 1 (by decide)
 by_cases h1:a<s.size
 ·have hi:(a:Int)<(s.size:Int):=by omega
  by_cases h2:s[a]=c
  ·have hne:((s[a].toNat:Int) != (c.toNat:Int))=false:=by rw [h2]; simp
   have HX:Hid (x=(true,a+1,0)):=Lib.hid (by rw [hx.out,mustL,dif_pos h1,if_pos h2])
   clear h h2 hx
   go_enter Tryz.func136,Tryz.ntmps136
   go_wp2_with fail
   go_quiet (fail)
   go_wp2_with fail
   go_quiet (fail)
   go_wp2_with fail
   go_ret
   rw [HX.out]
   exact⟨rfl,by simpa using (H.out.drewN _).setAt _,grown_trans (grown_drewN (World.grownBy.refl _ _) _) (grown_setCell _ _ _ _)⟩
  ·have hne:((s[a].toNat:Int) != (c.toNat:Int))=true:=by
    rw [bne_iff_ne]
    intro e
    exact h2 (UInt8.toNat_inj.1 (by omega))
   have HX:Hid (x=(false,a,11)):=Lib.hid (by rw [hx.out,mustL,dif_pos h1,if_neg h2])
   clear h h2 hx
   go_enter Tryz.func136,Tryz.ntmps136
   go_wp2_with fail
   go_quiet (fail)
   go_wp2_with fail
   go_quiet (fail)
   go_wp2_with fail
   refine (fail_any r s a m 11 _ (H.out.drewN _)).mono ?_
   rintro e w1 ⟨rfl,hr1,hg1⟩
   have HR:=Lib.hid hr1
   have HG:=Lib.hid hg1
   clear hr1 hg1
   go_wp2_with fail
   go_ret
   rw [HX.out]
   exact⟨rfl,HR.out,⟨HG.out.os,HG.out.tape,HG.out.output,HG.out.size,HG.out.block⟩⟩
 ·have hi:(s.size:Int)≤(a:Int):=by omega
  have HX:Hid (x=(false,a,10)):=Lib.hid (by rw [hx.out,mustL,dif_neg h1])
  clear h hx
  go_enter Tryz.func136,Tryz.ntmps136
  go_wp2_with fail
  go_quiet (fail)
  go_wp2_with fail
  refine (fail_any r s a m 10 _ (H.out.drewN _)).mono ?_
  rintro e w1 ⟨rfl,hr1,hg1⟩
  have HR:=Lib.hid hr1
  have HG:=Lib.hid hg1
  clear hr1 hg1
  go_wp2_with fail
  go_ret
  rw [HX.out]
  exact⟨rfl,HR.out,⟨HG.out.os,HG.out.tape,HG.out.output,HG.out.size,HG.out.block⟩⟩
end Go.Proofs.YtlpgbmaoenncjaaGreatDoor
namespace Go.Proofs.YtlpgbmaoenncjaaGreatDoor
open Go.RowKit
set_option linter.unusedVariables false
inductive V where
 | mk (kind n:Int) (s:ByteArray) (l:List V)
mutual
def V.At (w:World) (S:Nat→Prop):V→List Value→Prop
 | .mk k n s l,cs=>∃ (a:Option Addr) (c:Nat),cs=[.int .i64 k,.int .i64 n,.string s,.slice a l.length c]∧l.length≤c∧(a=none→c=0)∧VAll w S a 0 l
def VAll (w:World) (S:Nat→Prop) (a:Option Addr):Nat→List V→Prop
 | _,[]=>True
 | i,x :: r=>(∃ (b o:Nat) (cs:List Value),a=some ⟨b,o,none⟩∧S b∧V.At w S x cs∧∀ j u,cs[j]? = some u→w.cell? ⟨b,o+i*4+j,none⟩=some u)∧VAll w S a (i+1) r
end
mutual
theorem V.At.move {w w':World}{S T:Nat→Prop}(hT:∀ b,S b→T b) (hk:∀ b,S b→w'.heap[b]? = w.heap[b]?):∀ (x:V) (cs:List Value),V.At w S x cs→V.At w' T x cs
 | .mk k n s l,cs,h=>by
   simp only [V.At] at h ⊢
   obtain⟨a,c,h1,h2,h3,h4⟩:=h
   exact⟨a,c,h1,h2,h3,VAll.move hT hk a 0 l h4⟩
theorem VAll.move {w w':World}{S T:Nat→Prop}(hT:∀ b,S b→T b) (hk:∀ b,S b→w'.heap[b]? = w.heap[b]?) (a:Option Addr):∀ (i:Nat) (l:List V),VAll w S a i l→VAll w' T a i l
 | _,[],_=>by simp only [VAll]
 | i,x :: r,h=>by
   simp only [VAll] at h ⊢
   obtain⟨⟨b,o,cs,h1,h2,h3,h4⟩,h5⟩:=h
   exact⟨⟨b,o,cs,h1,hT b h2,V.At.move hT hk x cs h3,fun j u hj=>(World.cell?_of_block (hk b h2)).trans (h4 j u hj)⟩,VAll.move hT hk a (i+1) r h5⟩
end
theorem V.At.four {w:World}{S:Nat→Prop}:∀ {x:V}{cs:List Value},V.At w S x cs→cs.length=4∧∀ u∈cs,u.oneCell'=true
 | .mk k n s l,cs,h=>by
   simp only [V.At] at h
   obtain⟨a,c,rfl,_⟩:=h
   refine⟨rfl,fun u hu=>?_⟩
   simp at hu
   rcases hu with rfl | rfl | rfl | rfl <;> rfl
inductive RowOf (w:World) (S:Nat→Prop):List V→List Value→Prop
 | nil:RowOf w S [] []
 | snoc {l:List V}{cells:List Value}{x:V}{cs:List Value}:RowOf w S l cells→V.At w S x cs→RowOf w S (l++[x]) (cells++cs)
theorem RowOf.length {w:World}{S:Nat→Prop}{l:List V}{cells:List Value}(h:RowOf w S l cells):cells.length=l.length*4:=by
 induction h with
 | nil=>rfl
 | snoc h1 h2 ih=>rw [List.length_append,List.length_append,ih,h2.four.1]; simp; omega
theorem RowOf.one {w:World}{S:Nat→Prop}{l:List V}{cells:List Value}(h:RowOf w S l cells):∀ u∈cells,u.oneCell'=true:=by
 induction h with
 | nil=>intro u hu; cases hu
 | snoc h1 h2 ih =>
   intro u hu
   rcases List.mem_append.1 hu with h | h
   ·exact ih u h
   ·exact h2.four.2 u h
theorem RowOf.move {w w':World}{S T:Nat→Prop}(hT:∀ b,S b→T b) (hk:∀ b,S b→w'.heap[b]? = w.heap[b]?) {l:List V}{cells:List Value}(h:RowOf w S l cells):RowOf w' T l cells:=by
 induction h with
 | nil=>exact .nil
 | snoc h1 h2 ih=>exact .snoc ih (V.At.move hT hk _ _ h2)
theorem VAll.snoc {w:World}{S:Nat→Prop}(a:Option Addr) (x:V):∀ (i:Nat) (l:List V),VAll w S a i l →
 (∃ (b o:Nat) (cs:List Value),a=some ⟨b,o,none⟩∧S b∧V.At w S x cs∧∀ j u,cs[j]? = some u→w.cell? ⟨b,o+(i+l.length)*4+j,none⟩=some u)→VAll w S a i (l++[x])
 | i,[],h,hx=>by
   simp only [List.nil_append,VAll]
   simp only [List.length_nil,Nat.add_zero] at hx
   exact⟨hx,trivial⟩
 | i,y :: r,h,hx=>by
   simp only [List.cons_append,VAll] at h ⊢
   refine⟨h.1,VAll.snoc a x (i+1) r h.2 ?_⟩
   have e:i+(y :: r).length=i+1+r.length:=by simp; omega
   rw [e] at hx
   exact hx
theorem RowOf.all {w:World}{S:Nat→Prop}{b:Nat}(hb:S b) {l:List V}{cells:List Value}(h:RowOf w S l cells) (hc:∀ j u,cells[j]? = some u→w.cell? ⟨b,j,none⟩=some u):VAll w S (some ⟨b,0,none⟩) 0 l:=by
 induction h with
 | nil=>simp only [VAll]
 | snoc h1 h2 ih =>
   rename_i l cells x cs
   refine VAll.snoc _ x 0 l (ih fun j u hj=>hc j u (by rw [List.getElem?_append_left (List.getElem?_eq_some_iff.1 hj).1]; exact hj)) ⟨b,0,cs,rfl,hb,h2,fun j u hj=>?_⟩
   have hl:=h1.length
   rw [show 0+(0+l.length)*4+j=cells.length+j by omega]
   exact hc _ u (by rw [List.getElem?_append_right (Nat.le_add_right _ _),Nat.add_sub_cancel_left]; exact hj)
end Go.Proofs.YtlpgbmaoenncjaaGreatDoor
namespace Go.Proofs.YtlpgbmaoenncjaaGreatDoor
open Go.RowKit
set_option linter.unusedVariables false
def digitsL (s:ByteArray) (most from_:Nat):Nat→Nat→Nat→Nat × Bool × Nat × Int
 | 0,_,a=>(0,false,a,10)
 | f+1,n,a=>if h:a<s.size then
    (if s[a].toNat<48∨57<s[a].toNat then (if a=from_ then (0,false,a,11) else (n,true,a,0))
     else if (from_<a∧n=0)∨(most - (s[a].toNat - 48)) / 10<n then (0,false,a,11)
     else digitsL s most from_ f (10*n+(s[a].toNat - 48)) (a+1))
   else (0,false,a,10)
def DigPost (r:Nat) (s:ByteArray) (m:Int) (w:World) (x:Nat × Bool × Nat × Int) (e:Ending) (w':World):Prop :=
 e = .returned (.tuple #[.int .u64 (x.1:Int),.bool x.2.1])∧RdAt w' r s (x.2.2.1:Int) m x.2.2.2∧w.grownBy w' (some r)
theorem grown_drew_l {w w':World}{n:Nat}{row:Option Nat}(h:(w.drewN n).grownBy w' row):w.grownBy w' row:=⟨h.os,h.tape,h.output,h.size,h.block⟩
set_option maxRecDepth 20000 in
set_option maxHeartbeats 4000000 in
theorem digits_any (r:Nat) (s:ByteArray) (a0:Nat) (m:Int) (most:Nat) (w:World) (h:RdAt w r s a0 m 0) (hs:s.size≤maxLen) (ha:a0≤s.size) (h9:9≤most) (hm:most≤9223372036854775808)
 (x:Nat × Bool × Nat × Int) (hx:Hid (x=digitsL s most a0 (s.size+1 - a0) 0 a0)) :
 Calls Tryz.prog 135 #[.pointer (some ⟨r,0,none⟩),.int .u64 (most:Int)] w (DigPost r s m w x):=by
 unfold maxLen at hs
 have H:=Lib.hid h
 have c1:=h.c1
 clear h
 go_enter Tryz.func135,Tryz.ntmps135
 go_wp2_with fail
 go_quiet (fail)
 clear c1
 go_wp2_with fail
 go_loopg [6] (s.size+1 - a0) (fun gk v6 wr=>∃ n a:Nat,gk=s.size+1 - a∧v6 = .int .u64 (n:Int)∧a0≤a∧a≤s.size∧n≤most∧Hid (RdAt wr r s (a:Int) m 0)∧Hid (w.grownBy wr (some r))∧Hid (x=digitsL s most a0 (s.size+1 - a) n a))
 case atStart=>exact⟨0,a0,rfl,rfl,Nat.le_refl _,ha,Nat.zero_le _,Lib.hid (H.out.drewN _),Lib.hid (grown_drewN (World.grownBy.refl _ _) _),hx⟩
 case round =>
  obtain⟨n,a,rfl,rfl,ha0,has,hn,hR,hG,hX⟩:=hrel
  have c0:=hR.out.c0
  have c1:=hR.out.c1
  have f1:=hR.out.free 1 (by decide)
  by_cases h1:a<s.size
  ·have hi:(a:Int)<(s.size:Int):=by omega
   have hfu:s.size+1 - a=(s.size - a)+1:=by omega
   have hst:=hX.out
   rw [hfu,digitsL,dif_pos h1] at hst
   have hfx:s.size - a=s.size+1 - (a+1):=by omega
   rw [hfx] at hst
   by_cases hd:s[a].toNat<48∨57<s[a].toNat
   ·rw [if_pos hd] at hst
    have hpk:((s[a].toNat:Int)<48)∨((48:Int)≤(s[a].toNat:Int)∧(57:Int)<(s[a].toNat:Int)):=by omega
    by_cases h2:a=a0
    ·subst h2
     rw [if_pos rfl] at hst
     have HS:=Lib.hid hst
     clear hst hd hX
     rcases hpk with hk | ⟨hk1,hk2⟩
     all_goals
      go_wp2_with fail
      go_quiet (fail)
      go_wp2_with fail
      go_quiet (fail)
      go_wp2_with fail
      refine (fail_any r s a m 11 _ (hR.out.drewN _)).mono ?_
      rintro e w1 ⟨rfl,hr1,hg1⟩
      have HR:=Lib.hid hr1
      have HG:=Lib.hid (grown_trans hG.out (grown_drew_l hg1))
      clear hr1 hg1
      go_wp2_with fail
      go_ret2
      rw [HS.out]
      exact⟨rfl,HR.out,HG.out⟩
    ·rw [if_neg h2] at hst
     have hne:((a:Int)==(a0:Int))=false:=by rw [beq_eq_false_iff_ne]; omega
     have HS:=Lib.hid hst
     clear hst hd hX h2
     rcases hpk with hk | ⟨hk1,hk2⟩
     all_goals
      go_wp2_with fail
      go_quiet (fail)
      go_wp2_with fail
      go_quiet (fail)
      go_wp2_with fail
      go_ret2
      rw [HS.out]
      exact⟨rfl,hR.out.drewN _,grown_drewN hG.out _⟩
   ·rw [if_neg hd] at hst
    have hk1:(48:Int)≤(s[a].toNat:Int):=by omega
    have hk2:(s[a].toNat:Int)≤57:=by omega
    obtain⟨d,hdd⟩:∃ d:Nat,s[a].toNat=d+48:=⟨s[a].toNat - 48,by omega⟩
    have hd9:d≤9:=by omega
    have hds:s[a].toNat - 48=d:=by omega
    rw [hds] at hst
    have hwd:(s[a].toNat:Int) - 48=(d:Int):=by omega
    clear hds hd
    by_cases hz:a0<a∧n=0
    ·rw [if_pos (.inl hz)] at hst
     obtain⟨hz1,rfl⟩:=hz
     have hzi:(a0:Int)<(a:Int):=by omega
     have HS:=Lib.hid hst
     clear hst hX hdd
     go_wp2_with fail
     go_quiet (fail)
     go_wp2_with fail
     go_quiet (fail)
     go_wp2_with fail
     refine (fail_any r s a m 11 _ (hR.out.drewN _)).mono ?_
     rintro e w1 ⟨rfl,hr1,hg1⟩
     have HR:=Lib.hid hr1
     have HG:=Lib.hid (grown_trans hG.out (grown_drew_l hg1))
     clear hr1 hg1
     go_wp2_with fail
     go_ret2
     rw [HS.out]
     exact⟨rfl,HR.out,HG.out⟩
    ·have hq:((most:Int) - (d:Int))=((most - d:Nat):Int):=by omega
     have hgd:((a0:Int)<(a:Int)∧((n:Int)==0)=false)∨(a:Int)≤(a0:Int):=by
      rcases Nat.lt_or_ge a0 a with h | h
      ·exact .inl ⟨by omega,by rw [beq_eq_false_iff_ne]; intro e; exact hz ⟨h,by omega⟩⟩
      ·exact .inr (by omega)
     by_cases hov:(most - d) / 10<n
     ·rw [if_pos (.inr hov)] at hst
      have hovi:((most - d:Nat):Int) / 10<(n:Int):=by omega
      have HST:=Lib.hid hst
      clear hst hX hdd hov hz
      rcases hgd with ⟨hg1,hg2⟩ | hg1
      all_goals
       go_wp2_with fail
       go_quiet (fail)
       go_wp2_with fail
       go_quiet (fail)
       go_wp2_with fail
       refine (fail_any r s a m 11 _ (hR.out.drewN _)).mono ?_
       rintro e w1 ⟨rfl,hr1,hg1⟩
       have HR:=Lib.hid hr1
       have HG:=Lib.hid (grown_trans hG.out (grown_drew_l hg1))
       clear hr1 hg1
       go_wp2_with fail
       go_ret2
       rw [HST.out]
       exact⟨rfl,HR.out,HG.out⟩
     ·rw [if_neg (fun e=>e.elim hz hov)] at hst
      have hovi:(n:Int)≤((most - d:Nat):Int) / 10:=by omega
      have hnm:10*n+d≤most:=by omega
      have HST:=Lib.hid hst
      clear hst hX hdd hov hz
      rcases hgd with ⟨hg1,hg2⟩ | hg1
      all_goals
       go_wp2_with fail
       go_quiet (fail)
       go_wp2_with fail
       go_quiet (fail)
       go_wp2_with fail
       go_roundg (s.size+1 - (a+1))
       case rel=>exact⟨10*n+d,a+1,rfl,by go_num,by omega,by omega,hnm,Lib.hid (by simpa using (hR.out.drewN _).setAt ((a:Int)+1)),Lib.hid (grown_trans hG.out (grown_trans (grown_drewN (World.grownBy.refl _ _) _) (grown_setCell _ _ _ _))),HST⟩
       case measure=>omega
  ·have hi:(s.size:Int)≤(a:Int):=by omega
   have hfu:s.size+1 - a=(s.size - a)+1:=by omega
   have hst:=hX.out
   rw [hfu,digitsL,dif_neg h1] at hst
   have HS:=Lib.hid hst
   clear hst hX
   go_wp2_with fail
   go_quiet (fail)
   go_wp2_with fail
   refine (fail_any r s a m 10 _ (hR.out.drewN _)).mono ?_
   rintro e w1 ⟨rfl,hr1,hg1⟩
   have HR:=Lib.hid hr1
   have HG:=Lib.hid (grown_trans hG.out (grown_drew_l hg1))
   clear hr1 hg1
   go_wp2_with fail
   go_ret2
   rw [HS.out]
   exact⟨rfl,HR.out,HG.out⟩
end Go.Proofs.YtlpgbmaoenncjaaGreatDoor
namespace Go.Proofs.YtlpgbmaoenncjaaGreatDoor
open Go.RowKit
set_option linter.unusedVariables false
theorem digitsL_ok (s:ByteArray) (most from_:Nat) (h9:9≤most):∀ (f n a:Nat),from_≤a→n≤most→(digitsL s most from_ f n a).2.1=true →
 (digitsL s most from_ f n a).2.2.2=0∧(digitsL s most from_ f n a).1≤most∧from_<(digitsL s most from_ f n a).2.2.1∧(digitsL s most from_ f n a).2.2.1<s.size
 | 0,n,a,_,_,h=>by simp [digitsL] at h
 | f+1,n,a,ha,hn,h=>by
   rw [digitsL] at h ⊢
   by_cases h1:a<s.size
   ·rw [dif_pos h1] at h ⊢
    by_cases h2:s[a].toNat<48∨57<s[a].toNat
    ·rw [if_pos h2] at h ⊢
     by_cases h3:a=from_
     ·rw [if_pos h3] at h; simp at h
     ·rw [if_neg h3] at h ⊢
      exact⟨rfl,hn,by dsimp only; omega,h1⟩
    ·rw [if_neg h2] at h ⊢
     by_cases h3:(from_<a∧n=0)∨(most - (s[a].toNat - 48)) / 10<n
     ·rw [if_pos h3] at h; simp at h
     ·rw [if_neg h3] at h ⊢
      have hnm:10*n+(s[a].toNat - 48)≤most:=by
       have:¬ (most - (s[a].toNat - 48)) / 10<n:=fun e=>h3 (.inr e)
       omega
      exact digitsL_ok s most from_ h9 f _ (a+1) (by omega) hnm h
   ·rw [dif_neg h1] at h; simp at h
theorem mustL_ok (s:ByteArray) (a:Nat) (c:UInt8) (h:(mustL s a c).1=true):(mustL s a c).2.2=0:=by
 unfold mustL at h ⊢
 split
 ·split
  ·rfl
  ·rename_i h1 h2; rw [dif_pos h1,if_neg h2] at h; simp at h
 ·rename_i h1; rw [dif_neg h1] at h; simp at h
theorem conv_neg (n:Nat) (h:n≤9223372036854775808):wrap64 (-(wrap64 (n:Int))) = -(n:Int):=by
 unfold wrap64; omega
theorem conv_pos (n:Nat) (h:n≤9223372036854775807):IntKind.i64.wrap (n:Int)=(n:Int):=by
 rw [IntKind.wrap_i64]; omega
def numTail (s:ByteArray) (most:Nat) (minus:Bool) (a:Nat):Int × Bool × Nat × Int :=
 if (digitsL s most a (s.size+1 - a) 0 a).2.1=true then
  (if (mustL s (digitsL s most a (s.size+1 - a) 0 a).2.2.1 101).1=true then ((if minus=true then -((digitsL s most a (s.size+1 - a) 0 a).1:Int) else ((digitsL s most a (s.size+1 - a) 0 a).1:Int)),true,(mustL s (digitsL s most a (s.size+1 - a) 0 a).2.2.1 101).2.1,0)
   else (0,false,(mustL s (digitsL s most a (s.size+1 - a) 0 a).2.2.1 101).2.1,(mustL s (digitsL s most a (s.size+1 - a) 0 a).2.2.1 101).2.2))
 else (0,false,(digitsL s most a (s.size+1 - a) 0 a).2.2.1,(digitsL s most a (s.size+1 - a) 0 a).2.2.2)
def numberL (s:ByteArray) (a:Nat):Int × Bool × Nat × Int :=
 if s.data.toList[a]? = some 45 then (if s.data.toList[a+1]? = some 48 then (0,false,a+1,11) else numTail s 9223372036854775808 true (a+1))
 else numTail s 9223372036854775807 false a
theorem at_lt {s:ByteArray}{a:Nat}(h:a<s.size):s.data.toList[a]? = some s[a]:=by
 rw [List.getElem?_eq_getElem (by simpa using h)]; rfl
theorem at_ge {s:ByteArray}{a:Nat}(h:¬ a<s.size):s.data.toList[a]? = none:=List.getElem?_eq_none (by simp; omega)
theorem byte_eq {x c:UInt8}(h:x=c):((x.toNat:Int)==(c.toNat:Int))=true:=by rw [h]; simp
theorem byte_ne {x c:UInt8}(h:x≠c):((x.toNat:Int)==(c.toNat:Int))=false:=by
 rw [beq_eq_false_iff_ne]; intro e; exact h (UInt8.toNat_inj.1 (by omega))
def NumPost (r:Nat) (s:ByteArray) (m:Int) (w:World) (x:Int × Bool × Nat × Int) (e:Ending) (w':World):Prop :=
 e = .returned (.tuple #[.int .i64 x.1,.bool x.2.1])∧RdAt w' r s (x.2.2.1:Int) m x.2.2.2∧w.grownBy w' (some r)
set_option maxRecDepth 20000 in
set_option maxHeartbeats 4000000 in
theorem number_any (r:Nat) (s:ByteArray) (a:Nat) (m:Int) (w:World) (h:RdAt w r s a m 0) (hs:s.size≤maxLen) (ha:a≤s.size) (x:Int × Bool × Nat × Int) (hx:Hid (x=numberL s a)) :
 Calls Tryz.prog 134 #[.pointer (some ⟨r,0,none⟩)] w (NumPost r s m w x):=by
 have hs':s.size≤9223372036854775807:=by unfold maxLen at hs; omega
 have H:=Lib.hid h
 have c0:=h.c0
 have c1:=h.c1
 have f1:=h.free 1 (by decide)
 clear h
 by_cases h1:a<s.size
 ·have hi:(a:Int)<(s.size:Int):=by omega
  by_cases h2:s[a]=45
  ·have hb:((s[a].toNat:Int)==45)=true:=byte_eq h2
   obtain⟨A,hA⟩:∃ A,A=a+1:=⟨_,rfl⟩
   have hnx:numberL s a=if s.data.toList[A]? = some 48 then (0,false,A,11) else numTail s 9223372036854775808 true A:=by
    subst hA; unfold numberL; rw [at_lt h1,h2]; simp
   have HR8:Hid (∀ n,RdAt ((w.drewN n).setCell ⟨r,1,none⟩ (.int .i64 ((a:Int)+1))) r s (A:Int) m 0):=Lib.hid (fun n=>by rw [show (A:Int)=(a:Int)+1 by omega]; simpa using (H.out.drewN n).setAt ((a:Int)+1))
   have hAs:A≤s.size:=by omega
   clear h2 hA
   by_cases h3:s.data.toList[A]? = some 48
   ·rw [if_pos h3] at hnx
    have h4:A<s.size:=by
     rcases Nat.lt_or_ge A s.size with h | h
     ·exact h
     ·rw [at_ge (by omega)] at h3; cases h3
    rw [at_lt h4] at h3
    have hb2:((s[A].toNat:Int)==48)=true:=byte_eq (Option.some.inj h3)
    have hi2:(A:Int)<(s.size:Int):=by omega
    have HX:Hid (x=(0,false,A,11)):=Lib.hid (by rw [hx.out,hnx])
    clear h3 hnx hx
    go_enter Tryz.func134,Tryz.ntmps134
    go_wp2_with fail
    go_quiet (fail)
    go_wp2_with fail
    have hR8:=Lib.hid (HR8.out nq)
    have hG8:Hid (w.grownBy ((w.drewN nq).setCell ⟨r,1,none⟩ (.int .i64 ((a:Int)+1))) (some r)):=Lib.hid (grown_trans (grown_drewN (World.grownBy.refl _ _) _) (grown_setCell _ _ _ _))
    clear c0 c1 f1 HR8
    generalize ((w.drewN nq).setCell ⟨r,1,none⟩ (.int .i64 ((a:Int)+1)))=w8 at *
    have d0:=hR8.out.c0
    have d1:=hR8.out.c1
    go_quiet (fail)
    go_wp2_with fail
    refine (fail_any r s (A:Int) m 11 _ (hR8.out.drewN _)).mono ?_
    rintro e w1 ⟨rfl,hr1,hg1⟩
    have HR:=Lib.hid hr1
    have HG:=Lib.hid (grown_trans hG8.out (grown_drew_l hg1))
    clear hr1 hg1
    go_wp2_with fail
    go_ret2
    rw [HX.out]
    exact⟨rfl,HR.out,HG.out⟩
   ·rw [if_neg h3] at hnx
    have HT:Hid (x=numTail s 9223372036854775808 true A):=Lib.hid (by rw [hx.out,hnx])
    by_cases h4:A<s.size
    ·rw [at_lt h4] at h3
     have hb2:((s[A].toNat:Int)==48)=false:=byte_ne (c:=48) (fun e=>h3 (by rw [e]))
     have hi2:(A:Int)<(s.size:Int):=by omega
     clear h3 hnx hx
     go_enter Tryz.func134,Tryz.ntmps134
     go_wp2_with fail
     go_quiet (fail)
     go_wp2_with fail
     have hR8:=Lib.hid (HR8.out nq)
     have hG8:Hid (w.grownBy ((w.drewN nq).setCell ⟨r,1,none⟩ (.int .i64 ((a:Int)+1))) (some r)):=Lib.hid (grown_trans (grown_drewN (World.grownBy.refl _ _) _) (grown_setCell _ _ _ _))
     clear c0 c1 f1 HR8
     generalize ((w.drewN nq).setCell ⟨r,1,none⟩ (.int .i64 ((a:Int)+1)))=w8 at *
     have d0:=hR8.out.c0
     have d1:=hR8.out.c1
     go_quiet (fail)
     go_wp2_with fail
     refine (digits_any r s (A) m 9223372036854775808 _ (hR8.out.drewN _) hs (by omega) (by decide) (by decide) _ (Lib.hid rfl)).mono ?_
     rintro e w1 ⟨rfl,hr1,hg1⟩
     have hst:=HT.out
     rw [numTail] at hst
     have hok:=digitsL_ok s 9223372036854775808 (A) (by decide) (s.size+1 - (A)) 0 (A) (Nat.le_refl _) (Nat.zero_le _)
     generalize digitsL s 9223372036854775808 (A) (s.size+1 - (A)) 0 (A)=x1 at *
     obtain⟨n1,ok1,a1,b1⟩:=x1
     have HR1:=Lib.hid hr1
     have HG1:=Lib.hid (grown_trans (grown_trans hG8.out (grown_drewN (World.grownBy.refl _ _) _)) hg1)
     clear hr1 hg1
     cases ok1 with
     | false =>
       dsimp only at hst
       rw [if_neg (by decide)] at hst
       have HST:=Lib.hid hst
       clear hst hok
       go_wp2_with fail
       go_ret2
       rw [HST.out]
       exact⟨rfl,HR1.out,HG1.out⟩
     | true =>
       obtain⟨hb1,hn1,ha1,ha2⟩:=hok rfl
       dsimp only at hb1 hn1 ha1 ha2
       subst hb1
       dsimp only at hst
       rw [if_pos rfl] at hst
       have HST0:=Lib.hid hst
       clear hst hok
       go_wp2_with fail
       refine (must_any r s a1 m 101 w1 HR1.out hs _ (Lib.hid rfl)).mono ?_
       rintro e w2 ⟨rfl,hr2,hg2⟩
       have hst:=HST0.out
       clear HST0
       have hz:=mustL_ok s a1 101
       generalize mustL s a1 101=y at *
       obtain⟨ok2,a2,b2⟩:=y
       have HR2:=Lib.hid hr2
       have HG2:=Lib.hid (grown_trans HG1.out hg2)
       clear hr2 hg2
       cases ok2 with
       | false =>
         dsimp only at hst
         rw [if_neg (by decide)] at hst
         have HST:=Lib.hid hst
         clear hst hz
         go_wp2_with fail
         go_ret2
         rw [HST.out]
         exact⟨rfl,HR2.out,HG2.out⟩
       | true =>
         have hb2:=hz rfl
         dsimp only at hb2
         subst hb2
         dsimp only at hst
         rw [if_pos rfl] at hst
         have HST:=Lib.hid hst
         clear hst hz
         have hw1:=conv_neg n1 hn1
         go_wp2_with fail
         go_ret2
         rw [HST.out]
         exact⟨by simp [hw1],HR2.out,HG2.out⟩
    ·have hi2:(s.size:Int)≤(A:Int):=by omega
     clear h3 hnx hx
     go_enter Tryz.func134,Tryz.ntmps134
     go_wp2_with fail
     go_quiet (fail)
     go_wp2_with fail
     have hR8:=Lib.hid (HR8.out nq)
     have hG8:Hid (w.grownBy ((w.drewN nq).setCell ⟨r,1,none⟩ (.int .i64 ((a:Int)+1))) (some r)):=Lib.hid (grown_trans (grown_drewN (World.grownBy.refl _ _) _) (grown_setCell _ _ _ _))
     clear c0 c1 f1 HR8
     generalize ((w.drewN nq).setCell ⟨r,1,none⟩ (.int .i64 ((a:Int)+1)))=w8 at *
     have d0:=hR8.out.c0
     have d1:=hR8.out.c1
     go_quiet (fail)
     go_wp2_with fail
     refine (digits_any r s (A) m 9223372036854775808 _ (hR8.out.drewN _) hs (by omega) (by decide) (by decide) _ (Lib.hid rfl)).mono ?_
     rintro e w1 ⟨rfl,hr1,hg1⟩
     have hst:=HT.out
     rw [numTail] at hst
     have hok:=digitsL_ok s 9223372036854775808 (A) (by decide) (s.size+1 - (A)) 0 (A) (Nat.le_refl _) (Nat.zero_le _)
     generalize digitsL s 9223372036854775808 (A) (s.size+1 - (A)) 0 (A)=x1 at *
     obtain⟨n1,ok1,a1,b1⟩:=x1
     have HR1:=Lib.hid hr1
     have HG1:=Lib.hid (grown_trans (grown_trans hG8.out (grown_drewN (World.grownBy.refl _ _) _)) hg1)
     clear hr1 hg1
     cases ok1 with
     | false =>
       dsimp only at hst
       rw [if_neg (by decide)] at hst
       have HST:=Lib.hid hst
       clear hst hok
       go_wp2_with fail
       go_ret2
       rw [HST.out]
       exact⟨rfl,HR1.out,HG1.out⟩
     | true =>
       obtain⟨hb1,hn1,ha1,ha2⟩:=hok rfl
       dsimp only at hb1 hn1 ha1 ha2
       omega
  ·have hb:((s[a].toNat:Int)==45)=false:=byte_ne h2
   have HT:Hid (x=numTail s 9223372036854775807 false a):=Lib.hid (by rw [hx.out,numberL,at_lt h1,if_neg (by simpa using h2)])
   clear h2 hx
   go_enter Tryz.func134,Tryz.ntmps134
   go_wp2_with fail
   go_quiet (fail)
   go_wp2_with fail
   refine (digits_any r s (a) m 9223372036854775807 _ (H.out.drewN _) hs ha (by decide) (by decide) _ (Lib.hid rfl)).mono ?_
   rintro e w1 ⟨rfl,hr1,hg1⟩
   have hst:=HT.out
   rw [numTail] at hst
   have hok:=digitsL_ok s 9223372036854775807 (a) (by decide) (s.size+1 - (a)) 0 (a) (Nat.le_refl _) (Nat.zero_le _)
   generalize digitsL s 9223372036854775807 (a) (s.size+1 - (a)) 0 (a)=x1 at *
   obtain⟨n1,ok1,a1,b1⟩:=x1
   have HR1:=Lib.hid hr1
   have HG1:=Lib.hid (grown_trans (grown_drewN (World.grownBy.refl _ _) _) hg1)
   clear hr1 hg1
   cases ok1 with
   | false =>
     dsimp only at hst
     rw [if_neg (by decide)] at hst
     have HST:=Lib.hid hst
     clear hst hok
     go_wp2_with fail
     go_ret2
     rw [HST.out]
     exact⟨rfl,HR1.out,HG1.out⟩
   | true =>
     obtain⟨hb1,hn1,ha1,ha2⟩:=hok rfl
     dsimp only at hb1 hn1 ha1 ha2
     subst hb1
     dsimp only at hst
     rw [if_pos rfl] at hst
     have HST0:=Lib.hid hst
     clear hst hok
     go_wp2_with fail
     refine (must_any r s a1 m 101 w1 HR1.out hs _ (Lib.hid rfl)).mono ?_
     rintro e w2 ⟨rfl,hr2,hg2⟩
     have hst:=HST0.out
     clear HST0
     have hz:=mustL_ok s a1 101
     generalize mustL s a1 101=y at *
     obtain⟨ok2,a2,b2⟩:=y
     have HR2:=Lib.hid hr2
     have HG2:=Lib.hid (grown_trans HG1.out hg2)
     clear hr2 hg2
     cases ok2 with
     | false =>
       dsimp only at hst
       rw [if_neg (by decide)] at hst
       have HST:=Lib.hid hst
       clear hst hz
       go_wp2_with fail
       go_ret2
       rw [HST.out]
       exact⟨rfl,HR2.out,HG2.out⟩
     | true =>
       have hb2:=hz rfl
       dsimp only at hb2
       subst hb2
       dsimp only at hst
       rw [if_pos rfl] at hst
       have HST:=Lib.hid hst
       clear hst hz
       have hw1:=conv_pos n1 hn1
       go_wp2_with fail
       go_ret2
       rw [HST.out]
       exact⟨by simp,HR2.out,HG2.out⟩
 ·have hi:(s.size:Int)≤(a:Int):=by omega
  have HT:Hid (x=numTail s 9223372036854775807 false a):=Lib.hid (by rw [hx.out,numberL,at_ge h1,if_neg (by simp)])
  clear hx
  go_enter Tryz.func134,Tryz.ntmps134
  go_wp2_with fail
  go_quiet (fail)
  go_wp2_with fail
  refine (digits_any r s (a) m 9223372036854775807 _ (H.out.drewN _) hs ha (by decide) (by decide) _ (Lib.hid rfl)).mono ?_
  rintro e w1 ⟨rfl,hr1,hg1⟩
  have hst:=HT.out
  rw [numTail] at hst
  have hok:=digitsL_ok s 9223372036854775807 (a) (by decide) (s.size+1 - (a)) 0 (a) (Nat.le_refl _) (Nat.zero_le _)
  generalize digitsL s 9223372036854775807 (a) (s.size+1 - (a)) 0 (a)=x1 at *
  obtain⟨n1,ok1,a1,b1⟩:=x1
  have HR1:=Lib.hid hr1
  have HG1:=Lib.hid (grown_trans (grown_drewN (World.grownBy.refl _ _) _) hg1)
  clear hr1 hg1
  cases ok1 with
  | false =>
    dsimp only at hst
    rw [if_neg (by decide)] at hst
    have HST:=Lib.hid hst
    clear hst hok
    go_wp2_with fail
    go_ret2
    rw [HST.out]
    exact⟨rfl,HR1.out,HG1.out⟩
  | true =>
    obtain⟨hb1,hn1,ha1,ha2⟩:=hok rfl
    dsimp only at hb1 hn1 ha1 ha2
    omega
end Go.Proofs.YtlpgbmaoenncjaaGreatDoor
namespace Go.Proofs.YtlpgbmaoenncjaaGreatDoor
open Go.RowKit
set_option linter.unusedVariables false
def zeroV:V:=.mk 0 0 ⟨#[]⟩ []
structure Rd where
 v:V
 ok:Bool
 at_:Nat
 many:Nat
 bad:Int
def Rd.no (at_ many:Nat) (bad:Int):Rd:=⟨zeroV,false,at_,many,bad⟩
def rdList (rd:Nat→Nat→Rd) (s:ByteArray):Nat→Nat→Nat→List V→Rd
 | 0,a,m,_=>Rd.no a m 10
 | f+1,a,m,acc=>if s.data.toList[a]? = some 101 then ⟨.mk 3 0 ⟨#[]⟩ acc,true,a+1,m,0⟩
   else if (rd a m).ok=true then rdList rd s f (rd a m).at_ (rd a m).many (acc++[(rd a m).v]) else Rd.no (rd a m).at_ (rd a m).many (rd a m).bad
def rdText (s:ByteArray) (a m:Nat):Rd :=
 if (digitsL s 131072 a (s.size+1 - a) 0 a).2.1=true then
  (if (mustL s (digitsL s 131072 a (s.size+1 - a) 0 a).2.2.1 58).1=true then
    (if s.size - (mustL s (digitsL s 131072 a (s.size+1 - a) 0 a).2.2.1 58).2.1<(digitsL s 131072 a (s.size+1 - a) 0 a).1 then Rd.no s.size m 10
     else ⟨.mk 2 0 (s.extract (mustL s (digitsL s 131072 a (s.size+1 - a) 0 a).2.2.1 58).2.1 ((mustL s (digitsL s 131072 a (s.size+1 - a) 0 a).2.2.1 58).2.1+(digitsL s 131072 a (s.size+1 - a) 0 a).1)) [],true,(mustL s (digitsL s 131072 a (s.size+1 - a) 0 a).2.2.1 58).2.1+(digitsL s 131072 a (s.size+1 - a) 0 a).1,m,0⟩)
   else Rd.no (mustL s (digitsL s 131072 a (s.size+1 - a) 0 a).2.2.1 58).2.1 m (mustL s (digitsL s 131072 a (s.size+1 - a) 0 a).2.2.1 58).2.2)
 else Rd.no (digitsL s 131072 a (s.size+1 - a) 0 a).2.2.1 m (digitsL s 131072 a (s.size+1 - a) 0 a).2.2.2
def rdNumber (s:ByteArray) (a m:Nat):Rd:=⟨.mk 1 (numberL s a).1 ⟨#[]⟩ [],(numberL s a).2.1,(numberL s a).2.2.1,m,(numberL s a).2.2.2⟩
def begins (c:UInt8):Bool:=c==105||c==108||(decide (48≤c.toNat)&&decide (c.toNat≤57))
def rdValue (s:ByteArray):Nat→Nat→Nat→Rd
 | 0,a,m=>match s.data.toList[a]? with
   | none=>Rd.no a m 10
   | some c=>if begins c then Rd.no a m 12 else Rd.no a m 11
 | d+1,a,m=>match s.data.toList[a]? with
   | none=>Rd.no a m 10
   | some c=>if begins c then (if 4000≤m then Rd.no a m 2
      else if c=105 then rdNumber s (a+1) (m+1)
      else if c=108 then rdList (rdValue s d) s (s.size+1 - (a+1)) (a+1) (m+1) []
      else rdText s a (m+1))
     else Rd.no a m 11
def Rd.Good (s:ByteArray) (a:Nat) (x:Rd):Prop:=x.ok=true→x.bad=0∧a<x.at_∧x.at_≤s.size∧x.many≤4000
theorem mustL_at (s:ByteArray) (a:Nat) (c:UInt8) (h:(mustL s a c).1=true):(mustL s a c).2.1=a+1∧a<s.size:=by
 unfold mustL at h ⊢
 split
 ·split
  ·rename_i h1 h2; exact⟨rfl,h1⟩
  ·rename_i h1 h2; rw [dif_pos h1,if_neg h2] at h; simp at h
 ·rename_i h1; rw [dif_neg h1] at h; simp at h
theorem rdText_good (s:ByteArray) (a m:Nat):(rdText s a m).ok=true→(rdText s a m).bad=0∧a<(rdText s a m).at_∧(rdText s a m).at_≤s.size∧(rdText s a m).many=m:=by
 intro h
 unfold rdText at h ⊢
 split
 ·rename_i h1
  obtain⟨-,-,h3,-⟩:=digitsL_ok s 131072 a (by decide) (s.size+1 - a) 0 a (Nat.le_refl _) (Nat.zero_le _) h1
  split
  ·rename_i h2
   obtain⟨h4,h5⟩:=mustL_at s _ _ h2
   split
   ·rename_i h6; rw [if_pos h1,if_pos h2,if_pos h6] at h; simp [Rd.no] at h
   ·rename_i h6; exact⟨rfl,by dsimp only; omega,by dsimp only; omega,rfl⟩
  ·rename_i h2; rw [if_pos h1,if_neg h2] at h; simp [Rd.no] at h
 ·rename_i h1; rw [if_neg h1] at h; simp [Rd.no] at h
theorem numTail_good (s:ByteArray) (most:Nat) (h9:9≤most) (mi:Bool) (a:Nat) (h:(numTail s most mi a).2.1=true):(numTail s most mi a).2.2.2=0∧a<(numTail s most mi a).2.2.1∧(numTail s most mi a).2.2.1≤s.size:=by
 unfold numTail at h ⊢
 by_cases h1:(digitsL s most a (s.size+1 - a) 0 a).2.1=true
 ·rw [if_pos h1] at h ⊢
  obtain⟨-,-,h3,-⟩:=digitsL_ok s most a h9 (s.size+1 - a) 0 a (Nat.le_refl _) (Nat.zero_le _) h1
  by_cases h2:(mustL s (digitsL s most a (s.size+1 - a) 0 a).2.2.1 101).1=true
  ·rw [if_pos h2] at h ⊢
   obtain⟨h4,h5⟩:=mustL_at s _ _ h2
   exact⟨rfl,by dsimp only; omega,by dsimp only; omega⟩
  ·rw [if_neg h2] at h; simp at h
 ·rw [if_neg h1] at h; simp at h
theorem numberL_good (s:ByteArray) (a:Nat) (h:(numberL s a).2.1=true):(numberL s a).2.2.2=0∧a<(numberL s a).2.2.1∧(numberL s a).2.2.1≤s.size:=by
 unfold numberL at h ⊢
 by_cases h1:s.data.toList[a]? = some 45
 ·rw [if_pos h1] at h ⊢
  by_cases h2:s.data.toList[a+1]? = some 48
  ·rw [if_pos h2] at h; simp at h
  ·rw [if_neg h2] at h ⊢
   obtain⟨h3,h4,h5⟩:=numTail_good s _ (by decide) _ _ h
   exact⟨h3,by omega,h5⟩
 ·rw [if_neg h1] at h ⊢
  exact numTail_good s _ (by decide) _ _ h
theorem at_some {s:ByteArray}{a:Nat}{c:UInt8}(h:s.data.toList[a]? = some c):a<s.size:=by
 have:=(List.getElem?_eq_some_iff.1 h).1; simpa using this
theorem rdList_good (rd:Nat→Nat→Rd) (s:ByteArray) (hrd:∀ a m,m≤4000→Rd.Good s a (rd a m)):∀ (f a m:Nat) (acc:List V),m≤4000→Rd.Good s a (rdList rd s f a m acc)
 | 0,a,m,acc,_=>by intro h; simp [rdList,Rd.no] at h
 | f+1,a,m,acc,hm=>by
   intro h
   rw [rdList] at h ⊢
   by_cases h1:s.data.toList[a]? = some 101
   ·rw [if_pos h1]
    have:=at_some h1
    exact⟨rfl,by dsimp only; omega,by dsimp only; omega,hm⟩
   ·rw [if_neg h1] at h ⊢
    by_cases h2:(rd a m).ok=true
    ·rw [if_pos h2] at h ⊢
     obtain⟨-,h4,h5,h6⟩:=hrd a m hm h2
     obtain⟨h7,h8,h9,h10⟩:=rdList_good rd s hrd f _ _ _ h6 h
     exact⟨h7,by omega,h9,h10⟩
    ·rw [if_neg h2] at h; simp [Rd.no] at h
theorem rdValue_good (s:ByteArray):∀ (d a m:Nat),m≤4000→Rd.Good s a (rdValue s d a m)
 | 0,a,m,_=>by
   intro h
   rw [rdValue] at h
   cases hc:s.data.toList[a]? with
   | none=>rw [hc] at h; simp [Rd.no] at h
   | some c=>rw [hc] at h; dsimp only at h; split at h <;> simp [Rd.no] at h
 | d+1,a,m,hm=>by
   intro h
   rw [rdValue] at h ⊢
   cases hc:s.data.toList[a]? with
   | none=>rw [hc] at h; simp [Rd.no] at h
   | some c =>
     rw [hc] at h
     dsimp only at h ⊢
     by_cases h1:begins c=true
     ·rw [if_pos h1] at h ⊢
      by_cases h2:4000≤m
      ·rw [if_pos h2] at h; simp [Rd.no] at h
      ·rw [if_neg h2] at h ⊢
       by_cases h3:c=105
       ·rw [if_pos h3] at h ⊢
        obtain⟨h4,h5,h6⟩:=numberL_good s (a+1) h
        exact⟨h4,by dsimp only [rdNumber]; omega,h6,by dsimp only [rdNumber]; omega⟩
       ·rw [if_neg h3] at h ⊢
        by_cases h4:c=108
        ·rw [if_pos h4] at h ⊢
         obtain⟨h5,h6,h7,h8⟩:=rdList_good _ s (rdValue_good s d) _ _ _ _ (by omega) h
         exact⟨h5,by omega,h7,h8⟩
        ·rw [if_neg h4] at h ⊢
         obtain⟨h5,h6,h7,h8⟩:=rdText_good s a (m+1) h
         exact⟨h5,h6,h7,by omega⟩
     ·rw [if_neg h1] at h; simp [Rd.no] at h
end Go.Proofs.YtlpgbmaoenncjaaGreatDoor

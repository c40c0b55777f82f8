/-
  The walk of the closure of code.Right, and of code.Right.
  The walk of the closure of code.Right where it is far.
  The walk of the closure of code.Right where it is near.
  The walk of code.Right: which values may be; for any value of at most 2^61 values.
-/
import Derived.Test.YtlpgbmaoenncjaaGreatDoorShelf
import Derived.Test.YtlpgbmaoenncjaaGreatDoorCvValue
import Derived.RangeFuncBox
import Derived.Deep.DeepCutAuto
import Derived.Deep.CutBlock
import Derived.Laws.EntriesVeiled
namespace Go.Proofs.YtlpgbmaoenncjaaGreatDoor
open Go.RowKit
set_option linter.unusedVariables false
mutual
def V.cnt:V→Nat
 | .mk k n s l=>1+cntAll l
def cntAll:List V→Nat
 | []=>0
 | x :: r=>x.cnt+cntAll r
end
theorem cntAll_ge:∀ (l:List V),l.length≤cntAll l
 | []=>Nat.le_refl _
 | .mk k n s l' :: r=>by simp only [List.length_cons,cntAll,V.cnt]; have:=cntAll_ge r; omega
structure RS where
 many:Nat
 deepest:Nat
 ok:Bool
def rightOne (k n:Int) (s:ByteArray) (l:List V):Bool :=
 if k=1 then decide (s.size=0)&&decide (l.length=0)
 else if k=2 then decide (n=0)&&decide (l.length=0)
 else if k=3 then decide (n=0)&&decide (s.size=0) else false
mutual
def rightGo:V→Nat→RS→RS
 | .mk k n s l,deep,st=>if 4000<st.many+1 then ⟨st.many+1,max st.deepest deep,st.ok⟩ else rightAll l (deep+1) ⟨st.many+1,max st.deepest deep,st.ok&&rightOne k n s l⟩
def rightAll:List V→Nat→RS→RS
 | [],_,st=>st
 | x :: r,deep,st=>rightAll r deep (rightGo x deep st)
end
structure RtAt (w:World) (B:Nat) (st:RS):Prop where
 m:Boxed w B 3 (.int .i64 (st.many:Int))
 d:Boxed w (B+1) 3 (.int .i64 (st.deepest:Int))
 o:Boxed w (B+2) 4 (.bool st.ok)
 f:Boxed w (B+3) 163 (.func (.func 126) #[] #[.pointer (some ⟨B,0,none⟩),.pointer (some ⟨B+1,0,none⟩),.pointer (some ⟨B+2,0,none⟩),.pointer (some ⟨B+3,0,none⟩)])
structure Wrote (B:Nat) (w w':World):Prop where
 os:w'.os=w.os
 tape:w'.tape=w.tape
 output:w'.output=w.output
 size:w.heap.size≤w'.heap.size
 block:∀ k,k<w.heap.size→(k<B∨B+3<k)→w'.heap[k]? = w.heap[k]?
theorem Wrote.refl (B:Nat) (w:World):Wrote B w w:=⟨rfl,rfl,rfl,Nat.le_refl _,fun _ _ _=>rfl⟩
theorem Wrote.trans {B:Nat}{a b c:World}(h:Wrote B a b) (k:Wrote B b c):Wrote B a c :=
 ⟨k.os.trans h.os,k.tape.trans h.tape,k.output.trans h.output,Nat.le_trans h.size k.size,fun i hi hr=>(k.block i (Nat.lt_of_lt_of_le hi h.size) hr).trans (h.block i hi hr)⟩
theorem Wrote.grown {B:Nat}{a b c:World}{row:Option Nat}(h:Wrote B a b) (k:b.grownBy c row) (hr:∀ i,row=some i→a.heap.size≤i∨(B≤i∧i≤B+3)):Wrote B a c :=
 ⟨k.os.trans h.os,k.tape.trans h.tape,k.output.trans h.output,Nat.le_trans h.size k.size,fun i hi hb=>(k.block i (Nat.lt_of_lt_of_le hi h.size) (fun e=>by have:=hr i e.symm; omega)).trans (h.block i hi hb)⟩
theorem RtAt.kept {w w':World}{B:Nat}{st:RS}(h:RtAt w B st) {row:Option Nat}(hg:w.grownBy w' row) (hr:∀ i,row=some i→i<B∨B+3<i):RtAt w' B st :=
 ⟨h.m.kept hg (fun e=>by have:=hr _ e.symm; omega),h.d.kept hg (fun e=>by have:=hr _ e.symm; omega),h.o.kept hg (fun e=>by have:=hr _ e.symm; omega),h.f.kept hg (fun e=>by have:=hr _ e.symm; omega)⟩
theorem VAll.at {w:World}{S:Nat→Prop}{a:Option Addr}:∀ (i:Nat) (l:List V),VAll w S a i l→∀ (k:Nat) (h:k<l.length),∃ (b o:Nat) (cs:List Value),a=some ⟨b,o,none⟩∧S b∧V.At w S l[k] cs∧∀ j u,cs[j]? = some u→w.cell? ⟨b,o+(i+k)*4+j,none⟩=some u
 | i,x :: r,h,0,_=>by simp only [VAll] at h; exact h.1
 | i,x :: r,h,k+1,hk=>by
   simp only [VAll] at h
   have:=VAll.at (i+1) r h.2 k (by simpa using hk)
   rw [show i+(k+1)=i+1+k by omega]
   simpa using this
mutual
theorem rightGo_many:∀ (x:V) (deep:Nat) (st:RS),st.many+1≤(rightGo x deep st).many∧(rightGo x deep st).many≤st.many+x.cnt
 | .mk k n s l,deep,st=>by
   rw [rightGo,V.cnt]
   split
   ·exact⟨Nat.le_refl _,by dsimp only; omega⟩
   ·have:=rightAll_many l (deep+1) ⟨st.many+1,max st.deepest deep,st.ok&&rightOne k n s l⟩
    dsimp only at this
    omega
theorem rightAll_many:∀ (l:List V) (deep:Nat) (st:RS),st.many≤(rightAll l deep st).many∧(rightAll l deep st).many≤st.many+cntAll l
 | [],deep,st=>by rw [rightAll,cntAll]; exact⟨Nat.le_refl _,Nat.le_refl _⟩
 | x :: r,deep,st=>by
   rw [rightAll,cntAll]
   have h1:=rightGo_many x deep st
   have h2:=rightAll_many r deep (rightGo x deep st)
   omega
end
theorem cntAll_mem {l:List V}{x:V}(h:x∈l):x.cnt≤cntAll l:=by
 induction l with
 | nil=>cases h
 | cons y r ih =>
   rw [cntAll]
   rcases List.mem_cons.1 h with rfl | h
   ·omega
   ·have:=ih h; omega
theorem cntAll_drop {l:List V}{k:Nat}(h:k<l.length):cntAll (l.drop k)=l[k].cnt+cntAll (l.drop (k+1)):=by rw [List.drop_eq_getElem_cons h,cntAll]
theorem rightAll_drop {l:List V}{k:Nat}(h:k<l.length) (deep:Nat) (st:RS):rightAll (l.drop k) deep st=rightAll (l.drop (k+1)) deep (rightGo l[k] deep st):=by rw [List.drop_eq_getElem_cons h,rightAll]
theorem Wrote.at {B:Nat}{w w':World}{S:Nat→Prop}(h:Wrote B w w') (hS:∀ b,S b→b<w.heap.size∧(b<B∨B+3<b)) {x:V}{cs:List Value}(k:V.At w S x cs):V.At w' S x cs :=
 V.At.move (fun _ hb=>hb) (fun b hb=>h.block b (hS b hb).1 (hS b hb).2) _ _ k
def RPost (B:Nat) (x:RS) (w:World) (e:Ending) (w':World):Prop:=e = .returned (.tuple #[])∧RtAt w' B x∧Wrote B w w'
end Go.Proofs.YtlpgbmaoenncjaaGreatDoor
namespace Go.Proofs.YtlpgbmaoenncjaaGreatDoor
open Go.RowKit
set_option linter.unusedVariables false
set_option maxRecDepth 20000 in
set_option maxHeartbeats 4000000 in
theorem right1_far (B:Nat) (k n:Int) (s:ByteArray) (a:Option Addr) (c:Nat) (l:List V) (deep:Nat) (st:RS) (w:World) (h:RtAt w B st) (hB:B+3<w.heap.size) (hm:st.many≤4611686018427387904) (hf:4000<st.many+1) :
 Calls Tryz.prog 126 #[.agg #[.int .i64 k,.int .i64 n,.string s,.slice a l.length c],.int .i64 (deep:Int),.pointer (some ⟨B,0,none⟩),.pointer (some ⟨B+1,0,none⟩),.pointer (some ⟨B+2,0,none⟩),.pointer (some ⟨B+3,0,none⟩)] w
  (RPost B ⟨st.many+1,max st.deepest deep,st.ok⟩ w):=by
 have hmi:(st.many:Int)≤4611686018427387904:=by omega
 have hfi:(4000:Int)<(st.many:Int)+1:=by omega
 have H:=Lib.hid h
 have h2:=h.kept (World.grownBy_alloc w (.cells #[.int .i64 k,.int .i64 n,.string s,.slice a l.length c] 70) none) (fun i e=>by cases e)
 have m0:=h2.m.cell
 have m1:=h2.m.frozen
 have d0:=h2.d.cell
 have d1:=h2.d.frozen
 have HR0:=Lib.hid h2
 clear h h2
 go_enter Tryz.func126,Tryz.ntmps126
 go_wp2_with fail
 go_end0
 refine⟨rfl,⟨?_,?_,?_,?_⟩,(((Wrote.refl B w).grown (World.grownBy_alloc w _ none) (fun i e=>by cases e)).grown (grown_setCell _ B 0 _) (fun i e=>by cases e; omega)).grown (grown_setCell _ (B+1) 0 _) (fun i e=>by cases e; omega)⟩
 ·show Boxed _ B 3 (.int .i64 ((st.many+1:Nat):Int))
  rw [Int.natCast_add]
  exact (HR0.out.m.set _).kept (grown_setCell _ (B+1) 0 _) (by simp)
 ·show Boxed _ (B+1) 3 (.int .i64 ((max st.deepest deep:Nat):Int))
  rw [show ((max st.deepest deep:Nat):Int)=max (st.deepest:Int) (deep:Int) by omega]
  exact (HR0.out.d.kept (grown_setCell _ B 0 _) (by simp)).set _
 ·exact (HR0.out.o.kept (grown_setCell _ B 0 _) (by simp)).kept (grown_setCell _ (B+1) 0 _) (by simp)
 ·exact (HR0.out.f.kept (grown_setCell _ B 0 _) (by simp)).kept (grown_setCell _ (B+1) 0 _) (by simp)
end Go.Proofs.YtlpgbmaoenncjaaGreatDoor
namespace Go.Proofs.YtlpgbmaoenncjaaGreatDoor
open Go.RowKit
set_option linter.unusedVariables false
set_option maxRecDepth 20000 in
set_option maxHeartbeats 4000000 in
theorem right1_near (B:Nat) (k n:Int) (s:ByteArray) (a:Option Addr) (c:Nat) (l:List V) (deep:Nat) (st:RS) (w:World) (h:RtAt w B st) (hB:B+3<w.heap.size) (hf:¬ 4000<st.many+1)
 (S:Nat→Prop) (hS:Hid (∀ b,S b→b<w.heap.size∧(b<B∨B+3<b))) (hc:l.length≤c) (hall:Hid (VAll w S a 0 l)) (hcnt:st.many+1+cntAll l≤4611686018427387904) (hdeep:deep≤st.many+1)
 (IH:Hid (∀ y∈l,∀ (cs:List Value) (deep:Nat) (st:RS) (w:World),RtAt w B st→B+3<w.heap.size→(∀ b,S b→b<w.heap.size∧(b<B∨B+3<b))→V.At w S y cs→st.many+y.cnt≤4611686018427387904→deep≤st.many+1 →
   Calls Tryz.prog 126 #[.agg cs.toArray,.int .i64 (deep:Int),.pointer (some ⟨B,0,none⟩),.pointer (some ⟨B+1,0,none⟩),.pointer (some ⟨B+2,0,none⟩),.pointer (some ⟨B+3,0,none⟩)] w (RPost B (rightGo y deep st) w)))
 (x:RS) (hx:Hid (x=rightAll l (deep+1) ⟨st.many+1,max st.deepest deep,st.ok&&rightOne k n s l⟩)) :
 Calls Tryz.prog 126 #[.agg #[.int .i64 k,.int .i64 n,.string s,.slice a l.length c],.int .i64 (deep:Int),.pointer (some ⟨B,0,none⟩),.pointer (some ⟨B+1,0,none⟩),.pointer (some ⟨B+2,0,none⟩),.pointer (some ⟨B+3,0,none⟩)] w (RPost B x w):=by
 have hmi:(st.many:Int)+1≤4000:=by omega
 have H:=Lib.hid h
 have h2:=h.kept (World.grownBy_alloc w (.cells #[.int .i64 k,.int .i64 n,.string s,.slice a l.length c] 70) none) (fun i e=>by cases e)
 have m0:=h2.m.cell
 have m1:=h2.m.frozen
 have d0:=h2.d.cell
 have d1:=h2.d.frozen
 have o0:=h2.o.cell
 have o1:=h2.o.frozen
 have HN:=Lib.hid (Four.new w 70 (.int .i64 k) (.int .i64 n) (.string s) (.slice a l.length c))
 have n0:=HN.out.c0
 have n1:=HN.out.c1
 have n2:=HN.out.c2
 have n3:=HN.out.c3
 have HR0:=Lib.hid h2
 clear h h2
 go_enter Tryz.func126,Tryz.ntmps126
 go_upto_block 0 with fail
 have HR1:Hid (RtAt (((w.alloc (.cells #[.int .i64 k,.int .i64 n,.string s,.slice a l.length c] 70)).setCell ⟨B,0,none⟩ (.int .i64 ((st.many:Int)+1))).setCell ⟨B+1,0,none⟩ (.int .i64 (max (st.deepest:Int) (deep:Int)))) B ⟨st.many+1,max st.deepest deep,st.ok⟩):=by
  refine Lib.hid ⟨?_,?_,?_,?_⟩
  ·show Boxed _ B 3 (.int .i64 ((st.many+1:Nat):Int))
   rw [Int.natCast_add]
   exact (HR0.out.m.set _).kept (grown_setCell _ (B+1) 0 _) (by simp)
  ·show Boxed _ (B+1) 3 (.int .i64 ((max st.deepest deep:Nat):Int))
   rw [show ((max st.deepest deep:Nat):Int)=max (st.deepest:Int) (deep:Int) by omega]
   exact (HR0.out.d.kept (grown_setCell _ B 0 _) (by simp)).set _
  ·exact (HR0.out.o.kept (grown_setCell _ B 0 _) (by simp)).kept (grown_setCell _ (B+1) 0 _) (by simp)
  ·exact (HR0.out.f.kept (grown_setCell _ B 0 _) (by simp)).kept (grown_setCell _ (B+1) 0 _) (by simp)
 have HW1:Hid (Wrote B w (((w.alloc (.cells #[.int .i64 k,.int .i64 n,.string s,.slice a l.length c] 70)).setCell ⟨B,0,none⟩ (.int .i64 ((st.many:Int)+1))).setCell ⟨B+1,0,none⟩ (.int .i64 (max (st.deepest:Int) (deep:Int))))):=Lib.hid ((((Wrote.refl B w).grown (World.grownBy_alloc w _ none) (fun i e=>by cases e)).grown (grown_setCell _ B 0 _) (fun i e=>by cases e; omega)).grown (grown_setCell _ (B+1) 0 _) (fun i e=>by cases e; omega))
 have HN1:Hid (Four (((w.alloc (.cells #[.int .i64 k,.int .i64 n,.string s,.slice a l.length c] 70)).setCell ⟨B,0,none⟩ (.int .i64 ((st.many:Int)+1))).setCell ⟨B+1,0,none⟩ (.int .i64 (max (st.deepest:Int) (deep:Int)))) w.heap.size 70 (.int .i64 k) (.int .i64 n) (.string s) (.slice a l.length c)):=Lib.hid ((HN.out.kept (grown_setCell _ B 0 _) (by simp; omega)).kept (grown_setCell _ (B+1) 0 _) (by simp; omega))
 clear m0 m1 d0 d1 o0 o1 n0 n1 n2 n3
 generalize (((w.alloc (.cells #[.int .i64 k,.int .i64 n,.string s,.slice a l.length c] 70)).setCell ⟨B,0,none⟩ (.int .i64 ((st.many:Int)+1))).setCell ⟨B+1,0,none⟩ (.int .i64 (max (st.deepest:Int) (deep:Int))))=w1 at *
 clear HR0 HN
 go_cut [] (fun w'=>Hid (RtAt w' B ⟨st.many+1,max st.deepest deep,st.ok&&rightOne k n s l⟩)∧Hid (Wrote B w w')∧Hid (Four w' w.heap.size 70 (.int .i64 k) (.int .i64 n) (.string s) (.slice a l.length c)))
 case first =>
  have o0:=HR1.out.o.cell
  have o1:=HR1.out.o.frozen
  have n0:=HN1.out.c0
  have n1:=HN1.out.c1
  have n2:=HN1.out.c2
  have n3:=HN1.out.c3
  have fin:Hid (∀ v:Bool,v=(st.ok&&rightOne k n s l)→Hid (RtAt (w1.setCell ⟨B+2,0,none⟩ (.bool v)) B ⟨st.many+1,max st.deepest deep,st.ok&&rightOne k n s l⟩)∧Hid (Wrote B w (w1.setCell ⟨B+2,0,none⟩ (.bool v)))∧Hid (Four (w1.setCell ⟨B+2,0,none⟩ (.bool v)) w.heap.size 70 (.int .i64 k) (.int .i64 n) (.string s) (.slice a l.length c))):=by
   refine Lib.hid fun v hv=>?_
   subst hv
   have hg:=grown_setCell w1 (B+2) 0 (.bool (st.ok&&rightOne k n s l))
   exact⟨Lib.hid ⟨HR1.out.m.kept hg (by simp),HR1.out.d.kept hg (by simp),HR1.out.o.set _,HR1.out.f.kept hg (by simp)⟩,Lib.hid (HW1.out.grown hg (fun i e=>by cases e; omega)),Lib.hid (HN1.out.kept hg (by simp; omega))⟩
  have hlen:∀ z:List V,z.length=0→((z.length:Int)==0)=true:=fun z h=>by rw [h]; rfl
  have hlen2:∀ z:List V,z.length≠0→((z.length:Int)==0)=false:=fun z h=>by rw [beq_eq_false_iff_ne]; omega
  have HL1:=Lib.hid hlen
  have HL2:=Lib.hid hlen2
  clear hlen hlen2
  cases hok:st.ok with
  | false =>
    rw [hok] at o0
    have HOK:=Lib.hid hok
    clear hok
    by_cases h1:k=1
    ·subst h1
     go_wp2_with fail
     go_meet
     exact fin.out false (by rw [HOK.out]; rfl)
    ·by_cases h2:k=2
     ·subst h2
      clear h1
      go_wp2_with fail
      go_meet
      exact fin.out false (by rw [HOK.out]; rfl)
     ·by_cases h3:k=3
      ·subst h3
       clear h1 h2
       go_wp2_with fail
       go_meet
       exact fin.out false (by rw [HOK.out]; rfl)
      ·have p1:(k==1)=false:=by simpa using h1
       have p2:(k==2)=false:=by simpa using h2
       have p3:(k==3)=false:=by simpa using h3
       clear h1 h2 h3
       go_wp2_with fail
       go_meet
       exact fin.out false (by rw [HOK.out]; rfl)
  | true =>
    rw [hok] at o0
    have HOK:=Lib.hid hok
    clear hok
    by_cases h1:k=1
    ·subst h1
     by_cases hs0:s.size=0
     ·obtain rfl:=size0 hs0
      by_cases hl:l.length=0
      ·have p1:=HL1.out l hl
       have R:Hid (rightOne 1 n ⟨#[]⟩ l=true):=Lib.hid (by simp [rightOne,hl]; rfl)
       clear hl hs0
       go_wp2_with fail
       go_meet
       exact fin.out true (by rw [HOK.out,R.out]; rfl)
      ·have p1:=HL2.out l hl
       have R:Hid (rightOne 1 n ⟨#[]⟩ l=false):=Lib.hid (by simp only [rightOne,if_pos]; simp [hl])
       clear hl hs0
       go_wp2_with fail
       go_meet
       exact fin.out false (by rw [HOK.out,R.out]; rfl)
     ·have e1:=isEmpty_no hs0
      have e2:=eqNil_no hs0
      have R:Hid (rightOne 1 n s l=false):=Lib.hid (by simp [rightOne,hs0])
      clear hs0
      go_wp2_with fail
      go_meet
      exact fin.out false (by rw [HOK.out,R.out]; rfl)
    ·by_cases h2:k=2
     ·subst h2
      clear h1
      by_cases hn:n=0
      ·subst hn
       by_cases hl:l.length=0
       ·have p1:=HL1.out l hl
        have R:Hid (rightOne 2 0 s l=true):=Lib.hid (by simp [rightOne,hl])
        clear hl
        go_wp2_with fail
        go_meet
        exact fin.out true (by rw [HOK.out,R.out]; rfl)
       ·have p1:=HL2.out l hl
        have R:Hid (rightOne 2 0 s l=false):=Lib.hid (by simp [rightOne]; simpa using hl)
        clear hl
        go_wp2_with fail
        go_meet
        exact fin.out false (by rw [HOK.out,R.out]; rfl)
      ·have p2:(n==0)=false:=by simpa using hn
       have R:Hid (rightOne 2 n s l=false):=Lib.hid (by simp [rightOne,hn])
       clear hn
       go_wp2_with fail
       go_meet
       exact fin.out false (by rw [HOK.out,R.out]; rfl)
     ·by_cases h3:k=3
      ·subst h3
       clear h1 h2
       by_cases hn:n=0
       ·subst hn
        by_cases hs0:s.size=0
        ·obtain rfl:=size0 hs0
         clear hs0
         have R:Hid (rightOne 3 0 ⟨#[]⟩ l=true):=Lib.hid (by simp [rightOne]; rfl)
         go_wp2_with fail
         go_meet
         exact fin.out true (by rw [HOK.out,R.out]; rfl)
        ·have e1:=isEmpty_no hs0
         have e2:=eqNil_no hs0
         have R:Hid (rightOne 3 0 s l=false):=Lib.hid (by simp [rightOne,hs0])
         clear hs0
         go_wp2_with fail
         go_meet
         exact fin.out false (by rw [HOK.out,R.out]; rfl)
       ·have p2:(n==0)=false:=by simpa using hn
        have R:Hid (rightOne 3 n s l=false):=Lib.hid (by simp [rightOne,hn])
        clear hn
        go_wp2_with fail
        go_meet
        exact fin.out false (by rw [HOK.out,R.out]; rfl)
      ·have p1:(k==1)=false:=by simpa using h1
       have p2:(k==2)=false:=by simpa using h2
       have p3:(k==3)=false:=by simpa using h3
       have R:Hid (rightOne k n s l=false):=Lib.hid (by simp [rightOne,h1,h2,h3])
       clear h1 h2 h3
       go_wp2_with fail
       go_meet
       exact fin.out false (by rw [HOK.out,R.out]; rfl)
 case rest =>
  obtain⟨hR,hW,hN⟩:=hcut
  clear HR1 HW1 HN1
  have n0:=hN.out.c0
  have n1:=hN.out.c1
  have n2:=hN.out.c2
  have n3:=hN.out.c3
  have hll:=cntAll_ge l
  go_wp2_with fail
  go_loopg [63] l.length (fun gk v wr=>∃ (i:Nat) (sx:RS),i≤l.length∧gk=l.length - i∧v = .int .i64 (i:Int)∧st.many+1≤sx.many∧sx.many+cntAll (l.drop i)≤4611686018427387904∧Hid (RtAt wr B sx)∧Hid (Wrote B w wr)∧Hid (x=rightAll (l.drop i) (deep+1) sx))
  case atStart=>exact⟨0,_,Nat.zero_le _,rfl,rfl,Nat.le_refl _,by simpa using hcnt,hR,hW,hx⟩
  case round =>
   obtain⟨i,sx,hi,rfl,rfl,hsx,hsc,hR2,hW2,hX⟩:=hrel
   clear n0 n1 n2 n3
   by_cases hlt:i<l.length
   ·have hlti:(i:Int)<(l.length:Int):=by omega
    obtain⟨b,o,cs,rfl,hb,hat,hcell⟩:=VAll.at 0 l hall.out i hlt
    have hih:=IH.out l[i] (List.getElem_mem hlt)
    have hcd:=cntAll_drop hlt
    have hst:=hX.out
    rw [rightAll_drop hlt] at hst
    have hmany:=rightGo_many l[i] (deep+1) sx
    generalize l[i]=y at *
    obtain⟨yk,yn,ys,yl⟩:=y
    have hat':=hat
    simp only [V.At] at hat
    obtain⟨ya,yc,rfl,-,-,-⟩:=hat
    have hcell2:∀ j u,[Value.int .i64 yk,.int .i64 yn,.string ys,.slice ya yl.length yc][j]? = some u→wr.cell? ⟨b,o+i*4+j,none⟩=some u:=fun j u hj=>by
     have:=hcell j u hj
     rw [Nat.zero_add] at this
     exact (World.cell?_of_block (hW2.out.block b (hS.out b hb).1 (hS.out b hb).2)).trans this
    have e0:=hcell2 0 _ rfl
    have e1:=hcell2 1 _ rfl
    have e2:=hcell2 2 _ rfl
    have e3:=hcell2 3 _ rfl
    rw [Nat.add_zero] at e0
    have HN3:=Lib.hid (Four.new wr 70 (.int .i64 yk) (.int .i64 yn) (.string ys) (.slice ya yl.length yc))
    have HR3:=Lib.hid (hR2.out.kept (World.grownBy_alloc wr (.cells #[.int .i64 yk,.int .i64 yn,.string ys,.slice ya yl.length yc] 70) none) (fun i e=>by cases e))
    have HW3:=Lib.hid (hW2.out.grown (World.grownBy_alloc wr (.cells #[.int .i64 yk,.int .i64 yn,.string ys,.slice ya yl.length yc] 70) none) (fun i e=>by cases e))
    have f0:=HR3.out.f.cell
    have n0:=HN3.out.c0
    have n1:=HN3.out.c1
    have n2:=HN3.out.c2
    have n3:=HN3.out.c3
    have HIH:=Lib.hid hih
    have HAT:=Lib.hid hat'
    have HST:=Lib.hid hst
    have HM:=Lib.hid hmany
    have hdi:(deep:Int)≤4611686018427387904:=by omega
    have HC:=Lib.hid hcd
    clear hih hat' hst hmany hcell hcell2 hcd
    go_wp2_with fail
    have hsz3:=hW2.out.size
    refine (HIH.out _ (deep+1) sx _ HR3.out (by rw [World.size_alloc]; omega) (fun b' hb'=>⟨by rw [World.size_alloc]; have:=(hS.out b' hb').1; omega,(hS.out b' hb').2⟩) (HW3.out.at hS.out HAT.out) (by have:=HC.out; omega) (by omega)).mono ?_
    rintro e w4 ⟨rfl,hr4,hw4⟩
    have HR4:=Lib.hid hr4
    have HW4:=Lib.hid (HW3.out.trans hw4)
    clear hr4 hw4 e0 e1 e2 e3 f0 n0 n1 n2 n3
    go_wp2_with fail
    go_roundg (l.length - (i+1))
    case rel=>exact⟨i+1,_,hlt,rfl,by go_num,by have:=HM.out; omega,by have:=HM.out; have:=HC.out; omega,HR4,HW4,HST⟩
    case measure=>omega
   ·obtain rfl:i=l.length:=by omega
    have HX:Hid (x=sx):=Lib.hid (by rw [hX.out,List.drop_length,rightAll])
    go_wp2_with fail
    go_end0
    rw [HX.out]
    exact⟨rfl,hR2.out,hW2.out⟩
end Go.Proofs.YtlpgbmaoenncjaaGreatDoor
namespace Go.Proofs.YtlpgbmaoenncjaaGreatDoor
open Go.RowKit
set_option linter.unusedVariables false
theorem right1_any:∀ (f:Nat) (x:V),x.cnt≤f→∀ (S:Nat→Prop) (B:Nat) (cs:List Value) (deep:Nat) (st:RS) (w:World),RtAt w B st→B+3<w.heap.size→(∀ b,S b→b<w.heap.size∧(b<B∨B+3<b))→V.At w S x cs→st.many+x.cnt≤4611686018427387904→deep≤st.many+1 →
 Calls Tryz.prog 126 #[.agg cs.toArray,.int .i64 (deep:Int),.pointer (some ⟨B,0,none⟩),.pointer (some ⟨B+1,0,none⟩),.pointer (some ⟨B+2,0,none⟩),.pointer (some ⟨B+3,0,none⟩)] w (RPost B (rightGo x deep st) w)
 | 0,.mk k n s l,hf,_,_,_,_,_,_,_,_,_,_,_,_=>by simp only [V.cnt] at hf; omega
 | f+1,.mk k n s l,hf,S,B,cs,deep,st,w,h,hB,hS,hat,hcnt,hdeep=>by
   simp only [V.cnt] at hf hcnt
   simp only [V.At] at hat
   obtain⟨a,c,rfl,hc,-,hall⟩:=hat
   rw [rightGo]
   by_cases hfar:4000<st.many+1
   ·rw [if_pos hfar]
    exact right1_far B k n s a c l deep st w h hB (by omega) hfar
   ·rw [if_neg hfar]
    refine right1_near B k n s a c l deep st w h hB hfar S (Lib.hid hS) hc (Lib.hid hall) (by omega) hdeep (Lib.hid ?_) _ (Lib.hid rfl)
    intro y hy cs2 deep2 st2 w2 h2 hB2 hS2 hat2 hcnt2 hdeep2
    exact right1_any f y (by have:=cntAll_mem hy; omega) S B cs2 deep2 st2 w2 h2 hB2 hS2 hat2 hcnt2 hdeep2
theorem Boxed.fresh {w:World}{n:Nat}(h:w.heap.size=n) (t:TypeId) (v:Value):Boxed (w.alloc (.cells #[v] t)) n t v:=h ▸ Boxed.new w t v
def rightL (x:V):Int :=
 let z:=rightGo x 1 ⟨0,0,true⟩
 if 4000<z.many then 2 else if 30<z.deepest then 12 else if z.ok then 0 else 1
set_option maxRecDepth 20000 in
set_option maxHeartbeats 4000000 in
theorem right_any (S:Nat→Prop) (x:V) (cs:List Value) (w:World) (hS:∀ b,S b→b<w.heap.size) (hat:V.At w S x cs) (hcnt:x.cnt≤4611686018427387904) (y:Int) (hy:Hid (y=rightL x)) :
 Calls Tryz.prog 75 #[.agg cs.toArray] w (fun e w'=>e = .returned (.int .i64 y)∧Below w.heap.size w w'):=by
 have H:Hid (∀ (w5:World) (B:Nat),RtAt w5 B ⟨0,0,true⟩→B+3<w5.heap.size→(∀ b,S b→b<w5.heap.size∧(b<B∨B+3<b))→V.At w5 S x cs →
  Calls Tryz.prog 126 #[.agg cs.toArray,.int .i64 ((1:Nat):Int),.pointer (some ⟨B,0,none⟩),.pointer (some ⟨B+1,0,none⟩),.pointer (some ⟨B+2,0,none⟩),.pointer (some ⟨B+3,0,none⟩)] w5 (RPost B (rightGo x 1 ⟨0,0,true⟩) w5)) :=
  Lib.hid fun w5 B h1 h2 h3 h4=>right1_any x.cnt x (Nat.le_refl _) S B cs 1 ⟨0,0,true⟩ w5 h1 h2 h3 h4 (show 0+x.cnt≤4611686018427387904 by rw [Nat.zero_add]; exact hcnt) (show 1≤0+1 from Nat.le_refl 1)
 have HZ:Hid (y=if 4000<(rightGo x 1 ⟨0,0,true⟩).many then 2 else if 30<(rightGo x 1 ⟨0,0,true⟩).deepest then 12 else if (rightGo x 1 ⟨0,0,true⟩).ok then 0 else 1):=hy
 have HM:=rightGo_many x 1 ⟨0,0,true⟩
 generalize rightGo x 1 ⟨0,0,true⟩=z at H HZ HM
 have HMm:=Lib.hid HM
 have HAT:=Lib.hid hat
 have HS:=Lib.hid hS
 clear HM hy hS
 obtain⟨k,n,s,l⟩:=x
 simp only [V.At] at hat
 obtain⟨a,c,rfl,-,-,-⟩:=hat
 have hmf:∀ fn first cap w,(Instr.makeFunc fn first cap).run Tryz.prog w = .ok (.func fn first cap) w:=fun _ _ _ _=>rfl
 go_enter Tryz.func75,Tryz.ntmps75
 go_wp2_with fail
 have HR5:Hid (RtAt (((((w.alloc (.cells #[.int .i64 k,.int .i64 n,.string s,.slice a l.length c] 70)).alloc (.cells #[.int .i64 0] 3)).alloc (.cells #[.int .i64 0] 3)).alloc (.cells #[.bool true] 4)).alloc (.cells #[.func (.func 126) #[] #[.pointer (some ⟨w.heap.size+1,0,none⟩),.pointer (some ⟨w.heap.size+1+1,0,none⟩),.pointer (some ⟨w.heap.size+1+1+1,0,none⟩),.pointer (some ⟨w.heap.size+1+1+1+1,0,none⟩)]] 163)) (w.heap.size+1) ⟨0,0,true⟩):=by
  refine Lib.hid ⟨?_,?_,?_,?_⟩
  ·exact (((Boxed.fresh (by simp) _ _).alloc _).alloc _).alloc _
  ·exact ((Boxed.fresh (by simp) _ _).alloc _).alloc _
  ·exact (Boxed.fresh (by simp) _ _).alloc _
  ·exact Boxed.fresh (by simp) _ _
 have HB5:Hid (Below w.heap.size w (((((w.alloc (.cells #[.int .i64 k,.int .i64 n,.string s,.slice a l.length c] 70)).alloc (.cells #[.int .i64 0] 3)).alloc (.cells #[.int .i64 0] 3)).alloc (.cells #[.bool true] 4)).alloc (.cells #[.func (.func 126) #[] #[.pointer (some ⟨w.heap.size+1,0,none⟩),.pointer (some ⟨w.heap.size+1+1,0,none⟩),.pointer (some ⟨w.heap.size+1+1+1,0,none⟩),.pointer (some ⟨w.heap.size+1+1+1+1,0,none⟩)]] 163))):=Lib.hid ((((((Below.refl w.heap.size w).alloc (Nat.le_refl _) _).alloc (by simp) _).alloc (by simp; omega) _).alloc (by simp; omega) _).alloc (by simp; omega) _)
 have hsz:(((((w.alloc (.cells #[.int .i64 k,.int .i64 n,.string s,.slice a l.length c] 70)).alloc (.cells #[.int .i64 0] 3)).alloc (.cells #[.int .i64 0] 3)).alloc (.cells #[.bool true] 4)).alloc (.cells #[.func (.func 126) #[] #[.pointer (some ⟨w.heap.size+1,0,none⟩),.pointer (some ⟨w.heap.size+1+1,0,none⟩),.pointer (some ⟨w.heap.size+1+1+1,0,none⟩),.pointer (some ⟨w.heap.size+1+1+1+1,0,none⟩)]] 163)).heap.size=w.heap.size+5:=by simp
 have hat5:=V.At.move (w':=((((w.alloc (.cells #[.int .i64 k,.int .i64 n,.string s,.slice a l.length c] 70)).alloc (.cells #[.int .i64 0] 3)).alloc (.cells #[.int .i64 0] 3)).alloc (.cells #[.bool true] 4)).alloc (.cells #[.func (.func 126) #[] #[.pointer (some ⟨w.heap.size+1,0,none⟩),.pointer (some ⟨w.heap.size+1+1,0,none⟩),.pointer (some ⟨w.heap.size+1+1+1,0,none⟩),.pointer (some ⟨w.heap.size+1+1+1+1,0,none⟩)]] 163)) (fun _ h=>h) (fun b hb=>HB5.out.block b (HS.out b hb)) _ _ HAT.out
 have hcall:=H.out _ (w.heap.size+1) HR5.out (by rw [hsz]; omega) (fun b hb=>⟨by rw [hsz]; have:=HS.out b hb; omega,.inl (by have:=HS.out b hb; omega)⟩) hat5
 have HCALL:=Lib.hid hcall
 clear H hat5 hcall
 generalize ((((w.alloc (.cells #[.int .i64 k,.int .i64 n,.string s,.slice a l.length c] 70)).alloc (.cells #[.int .i64 0] 3)).alloc (.cells #[.int .i64 0] 3)).alloc (.cells #[.bool true] 4)).alloc (.cells #[.func (.func 126) #[] #[.pointer (some ⟨w.heap.size+1,0,none⟩),.pointer (some ⟨w.heap.size+1+1,0,none⟩),.pointer (some ⟨w.heap.size+1+1+1,0,none⟩),.pointer (some ⟨w.heap.size+1+1+1+1,0,none⟩)]] 163)=w5 at *
 refine HCALL.out.mono ?_
 clear HCALL HR5 HAT
 rintro e w6 ⟨rfl,hr6,hw6⟩
 have m0:=hr6.m.cell
 have d0:=hr6.d.cell
 have o0:=hr6.o.cell
 have HB6:Hid (Below w.heap.size w w6):=Lib.hid (HB5.out.trans ⟨hw6.os,hw6.tape,hw6.output,hw6.size,fun i hi=>hw6.block i (by omega) (.inl (by omega))⟩)
 clear hr6 hw6 HB5
 obtain⟨zm,zd,zo⟩:=z
 have hy:=HZ.out
 clear HZ
 dsimp only at hy m0 d0 o0
 by_cases h1:4000<zm
 ·have h1i:(4000:Int)<(zm:Int):=by omega
  have HY:Hid (y=2):=Lib.hid (by rw [hy,if_pos h1])
  clear hy h1
  go_wp2_with fail
  go_ret
  exact⟨by rw [HY.out]; rfl,HB6.out⟩
 ·have h1i:(zm:Int)≤4000:=by omega
  rw [if_neg h1] at hy
  by_cases h2:30<zd
  ·have h2i:(30:Int)<(zd:Int):=by omega
   have HY:Hid (y=12):=Lib.hid (by rw [hy,if_pos h2])
   clear hy h1 h2
   go_wp2_with fail
   go_ret
   exact⟨by rw [HY.out]; rfl,HB6.out⟩
  ·have h2i:(zd:Int)≤30:=by omega
   rw [if_neg h2] at hy
   cases zo with
   | true =>
     have HY:Hid (y=0):=Lib.hid (by rw [hy]; rfl)
     clear hy h1 h2
     go_wp2_with fail
     go_ret
     exact⟨by rw [HY.out]; rfl,HB6.out⟩
   | false =>
     have HY:Hid (y=1):=Lib.hid (by rw [hy]; rfl)
     clear hy h1 h2
     go_wp2_with fail
     go_ret
     exact⟨by rw [HY.out]; rfl,HB6.out⟩
end Go.Proofs.YtlpgbmaoenncjaaGreatDoor

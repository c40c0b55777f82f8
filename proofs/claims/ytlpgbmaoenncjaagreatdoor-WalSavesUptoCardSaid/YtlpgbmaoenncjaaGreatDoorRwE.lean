/-
  The walk of hornbookref01.Bytes: a list, and any value; as long as its bytes are at most 2^47. (Written by wip/mkrbl.py.)
-/
import Derived.Test.YtlpgbmaoenncjaaGreatDoorRw
import Derived.Test.YtlpgbmaoenncjaaGreatDoorRowM
namespace Go.Proofs.YtlpgbmaoenncjaaGreatDoor
open Go.RowKit
set_option linter.unusedVariables false
theorem conv_own {P:Program}(w:World) (src dst e:TypeId) (base:Nat) (v:Value) (l:List UInt8) (n:Nat) (hs:P.underlying src=some (.slice e)) (he:P.underlying e=some (.int .u8)) (hd:P.underlying dst=some .string)
 (h:w.ownsRow base e 1 v n (Lib.byteCells l)) (hne:n≠0):(convert src dst v).run P w = .ok (.string ⟨l.toArray⟩) w:=by
 rcases h.2 with ⟨rfl,h0⟩ | ⟨g,cap,cur,rfl,_⟩
 ·exact absurd h0 hne
 ·have hn:n=l.length:=by have:=h.1; rw [Lib.byteCells_length] at this; omega
  subst hn
  refine run_convert_bytes_back w src dst e ⟨g,0,none⟩ cap l hs he hd fun j hj=>?_
  have:=h.cells (g:=g) rfl j (.int .u8 (l[j].toNat:Int)) (by simp [Lib.byteCells,hj])
  exact this
theorem putL_pos:∀ x:V,0<(putL x).length
 | .mk k n s l=>by
   rw [putL]
   split
   ·simp
   ·split
    ·simp; omega
    ·simp
theorem slice_of {w:World}{base n:Nat}{e:TypeId}{v:Value}{xs:List Value}(h:w.ownsRow base e 1 v n xs):∃ a c,v = .slice a n c:=by
 rcases h.2 with ⟨hv,h0⟩ | ⟨g,cap,cur,hv,_⟩
 ·exact⟨none,0,by rw [hv,h0]⟩
 ·exact⟨_,_,hv⟩
set_option maxRecDepth 20000 in
set_option maxHeartbeats 1000000 in
theorem rbytes_list (k n:Int) (s:ByteArray) (a:Option Addr) (c:Nat) (l:List V) (S:Nat→Prop) (w:World) (hk1:k≠1) (hk2:k≠2) (hS:Hid (∀ p,S p→p<w.heap.size)) (hcm:l.length≤4611686018427387904) (hc:l.length≤c) (hall:Hid (VAll w S a 0 l))
 (hlen:(putAll l).length+2≤140737488355328) (htab:Tab w.heap.size w)
 (IH:Hid (∀ y∈l,∀ (cs:List Value) (w:World),(∀ p,S p→p<w.heap.size)→V.At w S y cs→Tab w.heap.size w→(putL y).length≤140737488355328→Calls Tryz.prog 87 #[.agg cs.toArray] w (fun e w'=>e = .returned (.string ⟨(putL y).toArray⟩)∧Below w.heap.size w w'))) :
 Calls Tryz.prog 87 #[.agg #[.int .i64 k,.int .i64 n,.string s,.slice a l.length c]] w (fun e w'=>e = .returned (.string ⟨(108 :: (putAll l++[101])).toArray⟩)∧Below w.heap.size w w'):=by
 obtain⟨i0,hi,hz0,hz1,hz2⟩:=info_parts infoByte
 have HI:=Lib.hid hi
 have HZ:=Lib.hid (And.intro hz0 (And.intro hz1 hz2))
 have p1:(k==1)=false:=by simpa using hk1
 have p2:(k==2)=false:=by simpa using hk2
 have HN:=Lib.hid ((Four.new w 70 (.int .i64 k) (.int .i64 n) (.string s) (.slice a l.length c)).alloc (.cells #[.int .u8 108] 5 (1,2)))
 have HN0:=Lib.hid (Four.new w 70 (.int .i64 k) (.int .i64 n) (.string s) (.slice a l.length c))
 have HB:=Lib.hid (((Below.refl w.heap.size w).alloc (Nat.le_refl _) (.cells #[.int .i64 k,.int .i64 n,.string s,.slice a l.length c] 70)).alloc (by simp) (.cells #[.int .u8 108] 5 (1,2)))
 have HO:=Lib.hid (ownsM_new (w.alloc (.cells #[.int .i64 k,.int .i64 n,.string s,.slice a l.length c] 70)) w.heap.size (by simp) 5 (.int .u8 108))
 have HT:=Lib.hid (fun w1 (h:Below w.heap.size w w1)=>(Lib.tabBelow_of_tabIs (htab w1 h):Tab w1.heap.size w1))
 have n0:=HN0.out.c0
 have n3:=HN.out.c3
 have hs1:(w.alloc (.cells #[.int .i64 k,.int .i64 n,.string s,.slice a l.length c] 70)).heap.size=w.heap.size+1:=by simp
 rw [hs1] at HO
 have hconv0:∀ (m c2:Nat),(convert 120 120 (.slice (some ⟨w.heap.size+1,0,none⟩) m c2)).run Tryz.prog ((w.alloc (.cells #[.int .i64 k,.int .i64 n,.string s,.slice a l.length c] 70)).alloc (.cells #[.int .u8 108] 5)) = .ok (.slice (some ⟨w.heap.size+1,0,none⟩) m c2) ((w.alloc (.cells #[.int .i64 k,.int .i64 n,.string s,.slice a l.length c] 70)).alloc (.cells #[.int .u8 108] 5 (1,2))):=fun m c2 =>
  Joins.run_convert_bytes_const_at (w.alloc (.cells #[.int .i64 k,.int .i64 n,.string s,.slice a l.length c] 70)) 120 5 #[.int .u8 108] m c2 (w.heap.size+1) (by simp) Tryz.underlying120 Tryz.underlying5
 clear hk1 hk2 htab hi hz0 hz1 hz2 hs1
 go_enter Tryz.func87,Tryz.ntmps87
 go_wp2_with fail
 clear n0 n3 HN HN0
 have HO2:Hid (OwnsM ((w.alloc (.cells #[.int .i64 k,.int .i64 n,.string s,.slice a l.length c] 70)).alloc (.cells #[.int .u8 108] 5 (1,2))) w.heap.size 5 (.slice (some ⟨w.heap.size+1,0,none⟩) 1 1) 1 (Lib.byteCells (108 :: putAll (l.take 0)))):=HO
 clear HO
 generalize (w.alloc (.cells #[.int .i64 k,.int .i64 n,.string s,.slice a l.length c] 70)).alloc (.cells #[.int .u8 108] 5 (1,2))=w1 at *
 go_loopg [30,3] l.length (fun gk v u wr=>∃ (i nb:Nat) (va:Option Addr) (vc:Nat),i≤l.length∧gk=l.length - i∧v = .int .i64 (i:Int)∧u = .slice va nb vc∧Hid (nb=1+(putAll (l.take i)).length)∧Hid (OwnsM wr w.heap.size 5 (.slice va nb vc) nb (Lib.byteCells (108 :: putAll (l.take i))))∧Hid (Below w.heap.size w wr))
 case atStart=>exact⟨0,1,_,1,Nat.zero_le _,rfl,rfl,rfl,Lib.hid rfl,HO2,HB⟩
 case round =>
  obtain⟨i,nb,va,vc,hi,rfl,rfl,rfl,hN,hO,hW⟩:=hrel
  clear HB HO2
  by_cases hlt:i<l.length
  ·have hpl:=putAll_len hlt
   have hpt:=putAll_take hlt
   have hlti:(i:Int)<(l.length:Int):=by omega
   obtain⟨b1,o,cs,rfl,hb,hat,hcell⟩:=VAll.at 0 l hall.out i hlt
   have hih:=IH.out l[i] (List.getElem_mem hlt)
   have hts:=takeV_snoc hlt
   generalize l[i]=y at *
   have HAT0:=hat
   obtain⟨yk,yn,ys,yl⟩:=y
   simp only [V.At] at hat
   generalize hyl:yl.length=ym at *
   have HYL:=Lib.hid hyl
   clear hyl
   obtain⟨ya,yc,rfl,-,-,-⟩:=hat
   have hcell2:∀ j u,[Value.int .i64 yk,.int .i64 yn,.string ys,.slice ya ym yc][j]? = some u→wr.cell? ⟨b1,o+i*4+j,none⟩=some u:=fun j u hj=>by
    have:=hcell j u hj
    rw [Nat.zero_add] at this
    exact (World.cell?_of_block (hW.out.block b1 (hS.out b1 hb))).trans this
   have e0:=hcell2 0 _ rfl
   have e1:=hcell2 1 _ rfl
   have e2:=hcell2 2 _ rfl
   have e3:=hcell2 3 _ rfl
   rw [Nat.add_zero] at e0
   have HN3:=Lib.hid (Four.new wr 70 (.int .i64 yk) (.int .i64 yn) (.string ys) (.slice ya ym yc))
   have HW3:=Lib.hid (hW.out.alloc hW.out.size (.cells #[.int .i64 yk,.int .i64 yn,.string ys,.slice ya ym yc] 70))
   have HAT:=Lib.hid (V.At.move (w':=wr.alloc (.cells #[.int .i64 yk,.int .i64 yn,.string ys,.slice ya ym yc] 70)) (fun _ hp=>hp) (fun p hp=>HW3.out.block p (hS.out p hp)) _ _ HAT0)
   have HSZ:Hid (∀ p,S p→p<(wr.alloc (.cells #[.int .i64 yk,.int .i64 yn,.string ys,.slice ya ym yc] 70)).heap.size):=Lib.hid fun p hp=>Nat.lt_of_lt_of_le (hS.out p hp) HW3.out.size
   have m0:=HN3.out.c0
   have m1:=HN3.out.c1
   have m2:=HN3.out.c2
   have m3:=HN3.out.c3
   have HIH:=Lib.hid hih
   have HTS:=Lib.hid hts
   clear hih hts HAT0 hcell hcell2
   have HC:=Lib.hid (HIH.out _ _ HSZ.out HAT.out (HT.out _ HW3.out) (by omega))
   have HO3:=Lib.hid (hO.out.alloc (.cells #[.int .i64 yk,.int .i64 yn,.string ys,.slice ya ym yc] 70))
   have HPT:=Lib.hid hpt
   have HQ:=Lib.hid (putL_pos (V.mk yk yn ys yl))
   generalize putL (V.mk yk yn ys yl)=q at *
   have hsz:(⟨q.toArray⟩:ByteArray).size=q.length:=by simp [ByteArray.size]
   have HSQ:=Lib.hid hsz
   have HPL:=Lib.hid hpl
   clear hpl hpt hsz hO
   go_wp2_with fail
   refine HC.out.mono ?_
   rintro e w4 ⟨rfl,hb4⟩
   have HW4:=Lib.hid (HW3.out.trans (Below.lower hb4 HW3.out.size))
   have HO4:=Lib.hid (HO3.out.kept hb4)
   clear HC hb4 e0 e1 e2 e3 m0 m1 m2 m3 HO3 HN3
   go_wp2_with (at_builtin; refine Stop.go ?_)
   unfold Stop
   refine wpList_appM_string _ rfl _ _ 120 9 rfl w.heap.size 5 i0 Tryz.underlying120 Tryz.underlying9 HI.out HZ.out.1 HZ.out.2.1 HZ.out.2.2 _ _ _ rfl HO4.out ⟨q.toArray⟩ rfl (by rw [HSQ.out]; exact HQ.out) (by have:=HSQ.out; have:=HPL.out; have:=hN.out; unfold maxLen; omega) (by have:=HSQ.out; have:=HPL.out; have:=hN.out; omega) HW4.out.size ?_
   intro v5 w5 ho5 hg5
   have hlt5:=HO4.out.lt
   have HW5:=Lib.hid (HW4.out.grown hg5 HW4.out.size (fun k e=>(hlt5 k e).2))
   rw [Lib.strCells_toArray,← Lib.byteCells_append] at ho5
   obtain⟨a5,c5,rfl⟩:=slice_of ho5
   have HO5:Hid (OwnsM w5 w.heap.size 5 (.slice a5 (nb+(⟨q.toArray⟩:ByteArray).size) c5) (nb+(⟨q.toArray⟩:ByteArray).size) (Lib.byteCells (108 :: putAll (l.take (i+1))))):=Lib.hid (by rw [HPT.out]; exact .inl ho5)
   have HN5:Hid (nb+(⟨q.toArray⟩:ByteArray).size=1+(putAll (l.take (i+1))).length):=Lib.hid (by rw [HPT.out,HSQ.out,hN.out,List.length_append]; omega)
   clear ho5 hg5 hlt5 HO4 HW4 hW hN
   generalize nb+(⟨q.toArray⟩:ByteArray).size=nb2 at *
   go_wp2_with fail
   go_roundg (l.length - (i+1))
   case rel=>exact⟨i+1,nb2,a5,c5,hlt,rfl,by go_num,rfl,HN5,HO5,HW5⟩
   case measure=>omega
  ·obtain rfl:i=l.length:=by omega
   have hO2:=hO.out
   have hN2:=hN.out
   rw [List.take_length] at hO2 hN2
   have HO2:=Lib.hid hO2
   have HN2:=Lib.hid hN2
   clear hO hO2 hN hN2
   go_wp2_with (at_builtin; refine Stop.go ?_)
   unfold Stop
   refine wpList_appM1 _ rfl _ _ 120 rfl w.heap.size 5 i0 (.int .u8 0) Tryz.underlying120 HI.out HZ.out.1 HZ.out.2.1 HZ.out.2.2 rfl _ _ _ HO2.out rfl (.int .u8 101) 5 rfl rfl (by have:=HN2.out; unfold maxLen; omega) (by have:=HN2.out; omega) hW.out.size ?_
   intro v5 w5 ho5 hg5
   have hlt5:=HO2.out.lt
   have HW5:=Lib.hid (hW.out.grown hg5 hW.out.size (fun k e=>(hlt5 k e).2))
   rw [show [Value.int .u8 101]=Lib.byteCells [101] from rfl,← Lib.byteCells_append] at ho5
   obtain⟨a5,c5,rfl⟩:=slice_of ho5
   have hconv:=conv_own (P:=Tryz.prog) w5 120 9 5 w.heap.size _ _ _ Tryz.underlying120 Tryz.underlying5 Tryz.underlying9 ho5 (by omega)
   clear ho5 hg5 hlt5 HO2 hW
   go_wp2_with fail
   go_ret
   exact⟨rfl,HW5.out⟩
theorem rbytes_any (S:Nat→Prop):∀ (f:Nat) (x:V),x.cnt≤f→x.cnt≤4611686018427387904→x.InR→∀ (cs:List Value) (w:World),(∀ p,S p→p<w.heap.size)→V.At w S x cs→Tab w.heap.size w→(putL x).length≤140737488355328 →
 Calls Tryz.prog 87 #[.agg cs.toArray] w (fun e w'=>e = .returned (.string ⟨(putL x).toArray⟩)∧Below w.heap.size w w')
 | 0,.mk k n s l,hf,_,_,_,_,_,_,_,_=>by simp only [V.cnt] at hf; omega
 | f+1,.mk k n s l,hf,hcnt,hr,cs,w,hS,hat,htab,hlen=>by
   simp only [V.cnt] at hf hcnt
   simp only [V.At] at hat
   simp only [V.InR] at hr
   obtain⟨a,c,rfl,hc,-,hall⟩:=hat
   by_cases h1:k=1
   ·subst h1
    rw [putL,if_pos rfl]
    exact rbytes_num n s a c l w htab hr.1.1 hr.1.2
   ·by_cases h2:k=2
    ·subst h2
     rw [putL,if_neg (by decide),if_pos rfl] at hlen ⊢
     exact rbytes_text n s a c l w htab (by simpa using hlen)
    ·rw [putL,if_neg h1,if_neg h2] at hlen ⊢
     refine rbytes_list k n s a c l S w h1 h2 (Lib.hid hS) (by have:=cntAll_ge l; omega) hc (Lib.hid hall) (by simpa using hlen) htab (Lib.hid ?_)
     intro y hy cs2 w2 h3 h4 h5 h6
     exact rbytes_any S f y (by have:=cntAll_mem hy; omega) (by have:=cntAll_mem hy; omega) (allInR_mem hr.2 hy) cs2 w2 h3 h4 h5 h6
end Go.Proofs.YtlpgbmaoenncjaaGreatDoor

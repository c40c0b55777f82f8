/-
  The walk of hornbookref01.Put: the bytes of any value, or why it is refused, are those of code.Put; as long as what is written has at most 2^47 bytes, and the value at most 2^61 values within it.
-/
import Derived.Test.YtlpgbmaoenncjaaGreatDoorRwE
namespace Go.Proofs.YtlpgbmaoenncjaaGreatDoor
open Go.RowKit
set_option linter.unusedVariables false
set_option maxRecDepth 20000 in
set_option maxHeartbeats 1000000 in
theorem rput_any (S:Nat→Prop) (x:V) (cs:List Value) (w:World) (hS:∀ b,S b→b<w.heap.size) (hat:V.At w S x cs) (hcnt:x.cnt≤4611686018427387904) (hr:x.InR) (hlen:(putL x).length≤140737488355328)
 (htab:Lib.TabIs Tryz.prog w "internal/strconv.uint64pow10" .u64 Lib.pow10Tab) (g:ByteArray × Int) (hg:Hid (g=putGot x)) :
 Calls Tryz.prog 39 #[.agg cs.toArray] w (fun e w'=>e = .returned (.tuple #[.string g.1,.int .i64 g.2])∧Below w.heap.size w w'):=by
 have HR:Hid (∀ (w1:World),(∀ b,S b→b<w1.heap.size)→V.At w1 S x cs→Calls Tryz.prog 86 #[.agg cs.toArray] w1 (fun e w'=>e = .returned (.int .i64 (rightL x))∧Below w1.heap.size w1 w')) :=
  Lib.hid fun w1 h1 h2=>rright_any S x cs w1 h1 h2 hcnt _ (Lib.hid rfl)
 have HP:Hid (∀ (w1:World),(∀ b,S b→b<w1.heap.size)→V.At w1 S x cs→Tab w1.heap.size w1→Calls Tryz.prog 87 #[.agg cs.toArray] w1 (fun e w'=>e = .returned (.string ⟨(putL x).toArray⟩)∧Below w1.heap.size w1 w')) :=
  Lib.hid fun w1 h1 h2 h3=>rbytes_any S x.cnt x (Nat.le_refl _) hcnt hr cs w1 h1 h2 h3 hlen
 have HG:Hid (g=if rightL x≠0 then (⟨#[]⟩,rightL x) else if 131072<(putL x).length then (⟨#[]⟩,2) else (⟨(putL x).toArray⟩,0)):=hg
 generalize rightL x=y at HR HG
 have HL:=Lib.hid hlen
 generalize putL x=bs at HP HG HL
 have HAT:=Lib.hid hat
 have HS:=Lib.hid hS
 have HT:=Lib.hid htab
 clear hg hS hr hlen hcnt htab
 obtain⟨k,n,s,l⟩:=x
 simp only [V.At] at hat
 obtain⟨a,c,rfl,-,-,-⟩:=hat
 have HN:=Lib.hid (Four.new w 70 (.int .i64 k) (.int .i64 n) (.string s) (.slice a l.length c))
 have n0:=HN.out.c0
 have n1:=HN.out.c1
 have n2:=HN.out.c2
 have n3:=HN.out.c3
 have HB1:=Lib.hid ((Below.refl w.heap.size w).alloc (Nat.le_refl _) (.cells #[.int .i64 k,.int .i64 n,.string s,.slice a l.length c] 70))
 have HA1:=Lib.hid (V.At.move (fun _ hp=>hp) (fun p hp=>HB1.out.block p (HS.out p hp)) _ _ HAT.out)
 have hs1:(w.alloc (.cells #[.int .i64 k,.int .i64 n,.string s,.slice a l.length c] 70)).heap.size=w.heap.size+1:=by simp
 go_enter Tryz.func39,Tryz.ntmps39
 go_wp2_with fail
 refine (HR.out _ (fun p hp=>by rw [hs1]; have:=HS.out p hp; omega) HA1.out).mono ?_
 rintro e w2 ⟨rfl,hb2⟩
 have HN2:Hid (Four w2 w.heap.size 70 (.int .i64 k) (.int .i64 n) (.string s) (.slice a l.length c)):=Lib.hid ((hb2.block _ (by rw [hs1]; omega)).trans HN.out)
 have HB2:=Lib.hid (HB1.out.trans (Below.lower hb2 (by rw [hs1]; omega)))
 have hs2:=hb2.size
 rw [hs1] at hs2
 clear n0 n1 n2 n3 HB1 HA1 hb2 HN HR hs1
 by_cases hy:y=0
 ·subst hy
  have HG2:Hid (g=if 131072<bs.length then (⟨#[]⟩,2) else (⟨bs.toArray⟩,0)):=Lib.hid (by rw [HG.out,if_neg (by simp)])
  clear HG
  have n0:=HN2.out.c0
  have n1:=HN2.out.c1
  have n2:=HN2.out.c2
  have n3:=HN2.out.c3
  go_wp2_with fail
  clear n0 n1 n2 n3
  refine (HP.out w2 (fun p hp=>by have:=HS.out p hp; omega) (V.At.move (fun _ hp=>hp) (fun p hp=>HB2.out.block p (HS.out p hp)) _ _ HAT.out) (Lib.tabBelow_of_tabIs (Lib.tabBelow_of_tabIs HT.out w2 HB2.out))).mono ?_
  rintro e w6 ⟨rfl,hb6⟩
  have HB6:=Lib.hid (HB2.out.trans (Below.lower hb6 HB2.out.size))
  clear hb6 HP HAT HB2 HN2
  have HSZ:Hid ((⟨bs.toArray⟩:ByteArray).size=bs.length):=Lib.hid (by simp [ByteArray.size])
  generalize hbs:(⟨bs.toArray⟩:ByteArray)=z at *
  by_cases hl:131072<bs.length
  ·have hl2:(131072:Int)<(z.size:Int):=by have:=HSZ.out; omega
   have HG3:Hid (g=(⟨#[]⟩,2)):=Lib.hid (by rw [HG2.out,if_pos hl])
   clear HG2 hl
   go_wp2_with fail
   go_ret2
   exact⟨by rw [HG3.out]; rfl,HB6.out⟩
  ·have hl2:(z.size:Int)≤131072:=by have:=HSZ.out; omega
   have HG3:Hid (g=(z,0)):=Lib.hid (by rw [HG2.out,if_neg hl])
   clear HG2 hl
   go_wp2_with fail
   go_ret2
   exact⟨by rw [HG3.out]; rfl,HB6.out⟩
 ·have p1:(y != 0)=true:=by simpa using hy
  have p2:(y==0)=false:=by simpa using hy
  have HG2:Hid (g=(⟨#[]⟩,y)):=Lib.hid (by rw [HG.out,if_pos hy])
  clear HG hy
  go_wp2_with fail
  go_ret2
  exact⟨by rw [HG2.out]; rfl,HB2.out⟩
end Go.Proofs.YtlpgbmaoenncjaaGreatDoor

/-
  The sum of a text as plain numbers: the program's way and the reference's way are one, and a difference within 32 bits is always seen; plain law, without a condition.
  The walks of frame.Sum and of the reference's Sum: on any text both return sum32 of its bytes; the world stays.
  The walks of frame.four, frame.Put and the reference's Four and Frame: both make one text; new blocks alone are made.
  Frames as plain lists: the frame at a text's beginning, told in the program's way and in the reference's way; all frames from a place on; plain law, without a condition.
  The walks of frame.number and of the reference's One and Scan: the number of four bytes; the frame at a text's head; all frames of a text of at most 100000 bytes.
  The walk of the reference's Scan: the bodies of all frames of a text of at most 200000 bytes, in a slice of one's own, and the place where the last frame ends.
  The walks of frame.frames and of the iterator that it hands back: each round is handed the place where a frame ends, and its body; for texts of at most 200000 bytes.
  The walk of frame.Scan: it answers as the reference's Scan, at every text of at most 200000 bytes.
-/
import Derived.Test.YtlpgbmaoenncjaaGreatDoorGen
import Derived.Test.YtlpgbmaoenncjaaGreatDoorRows
import Derived.WalkKit
import Derived.WalkSpells
import Derived.WalkLawsBesides
import Derived.Lib.Hide
import Derived.Laws.BytesArg
import Derived.Below
import Derived.RegionTactic
import Derived.ChangeAlike
import Derived.IntWalk
import Derived.Deep.RegionWith
import Derived.Deep.LoopGhost
import Derived.RangeFuncBox
import Derived.RangeFuncNested
import Derived.RangeFuncBound
import Derived.RangeFuncCalls
import Derived.RangeFuncLeaves
import Derived.Shelf.Abstract
import Derived.Shelf.RegionOpen
import Derived.OwnWalkIn
import Derived.TacticsInMore
import Derived.LoopNIn
import Derived.LoopIn
import Derived.Maps.AppendAt
import Derived.Sort.QuietIn
import Derived.Sort.LoopGhostIn
import Derived.WalkMore
import Derived.Scope
namespace Go.Proofs.YtlpgbmaoenncjaaGreatDoor
theorem ofInt32_nat (a:Nat) (ha:a<4294967296):(BitVec.ofInt 32 (a:Int)).toNat=a:=by
 rw [BitVec.ofInt_natCast,BitVec.toNat_ofNat]; exact Nat.mod_eq_of_lt (by omega)
theorem bits_xor_u32_nat (a b:Nat) (ha:a<4294967296) (hb:b<4294967296):bits .xor .u32 (a:Int) (b:Int)=((a ^^^ b:Nat):Int):=by
 have hx:a ^^^ b<2 ^ 32:=Nat.xor_lt_two_pow (by omega) (by omega)
 show IntKind.u32.wrap ((BitVec.ofInt 32 (a:Int) ^^^ BitVec.ofInt 32 (b:Int)).toNat:Int)=_
 rw [BitVec.toNat_xor,ofInt32_nat a ha,ofInt32_nat b hb,IntKind.wrap_u32]
 omega
theorem bits_and1_u32_nat (a:Nat) (ha:a<4294967296):bits .and .u32 (a:Int) 1=((a % 2:Nat):Int):=by
 show IntKind.u32.wrap ((BitVec.ofInt 32 (a:Int) &&& BitVec.ofInt 32 ((1:Nat):Int)).toNat:Int)=_
 rw [BitVec.toNat_and,ofInt32_nat a ha,ofInt32_nat 1 (by omega),IntKind.wrap_u32,Nat.and_one_is_mod]
 omega
theorem xor_rc (a b c:Nat):a ^^^ b ^^^ c=a ^^^ c ^^^ b:=by rw [Nat.xor_assoc,Nat.xor_comm b,← Nat.xor_assoc]
def tst (x:Nat):Nat:=x / 2 ^^^ (if x % 2=1 then 2197175160 else 0)
def tsts:Nat→Nat→Nat
 | 0,x=>x
 | n+1,x=>tsts n (tst x)
theorem tst_lt (x:Nat) (h:x<4294967296):tst x<4294967296:=by
 have:tst x<2 ^ 32:=by
  unfold tst
  refine Nat.xor_lt_two_pow (by omega) ?_
  split <;> omega
 omega
theorem tsts_add (m n x:Nat):tsts (m+n) x=tsts n (tsts m x):=by
 induction m generalizing x with
 | zero=>simp [tsts]
 | succ m ih=>rw [show m+1+n=(m+n)+1 by omega]; simp only [tsts]; exact ih _
theorem tsts_lt (n:Nat):∀ x,x<4294967296→tsts n x<4294967296:=by
 induction n with
 | zero=>intro x h; exact h
 | succ n ih=>intro x h; exact ih _ (tst_lt x h)
theorem tsts_succ (n x:Nat):tsts (n+1) x=tst (tsts n x):=by rw [tsts_add]; rfl
theorem tst_int (n:Nat) (h:n<4294967296) :
 bits .xor .u32 ((n:Int) / 2) (2197175160*bits .and .u32 (n:Int) 1 % 4294967296)=((tst n:Nat):Int):=by
 rw [bits_and1_u32_nat n h]
 unfold tst
 rw [show ((n:Int) / 2)=((n / 2:Nat):Int) by omega]
 by_cases ho:n % 2=1
 ·rw [if_pos ho,show ((2197175160:Int)*((n % 2:Nat):Int) % 4294967296)=((2197175160:Nat):Int) by omega,bits_xor_u32_nat _ _ (by omega) (by omega)]
 ·rw [if_neg ho,show ((2197175160:Int)*((n % 2:Nat):Int) % 4294967296)=((0:Nat):Int) by omega,bits_xor_u32_nat _ _ (by omega) (by omega)]
def crc (r:Nat) (l:List UInt8):Nat:=l.foldl (fun r b=>tsts 8 (r ^^^ b.toNat)) r
def sum32 (l:List UInt8):Nat:=4294967295 ^^^ crc 4294967295 l
theorem crc_snoc (r:Nat) (l:List UInt8) (b:UInt8):crc r (l++[b])=tsts 8 (crc r l ^^^ b.toNat):=by simp [crc]
theorem xor_byte_lt (r:Nat) (b:UInt8) (h:r<4294967296):r ^^^ b.toNat<4294967296:=by
 have:r ^^^ b.toNat<2 ^ 32:=Nat.xor_lt_two_pow (by omega) (by have:=byte_lt b; omega)
 omega
theorem crc_lt (l:List UInt8):∀ r,r<4294967296→crc r l<4294967296:=by
 induction l with
 | nil=>intro r h; exact h
 | cons b l ih=>intro r h; exact ih _ (tsts_lt 8 _ (xor_byte_lt r b h))
theorem sum32_lt (l:List UInt8):sum32 l<4294967296:=by
 have:sum32 l<2 ^ 32:=Nat.xor_lt_two_pow (by omega) (by have:=crc_lt l 4294967295 (by omega); omega)
 omega
theorem max_sub (r:Nat) (h:r<4294967296):4294967295 - r=4294967295 ^^^ r:=by
 have e1:4294967295 - r=2 ^ 32 - (r+1):=by omega
 rw [e1]
 apply Nat.eq_of_testBit_eq
 intro i
 rw [Nat.testBit_two_pow_sub_succ (by omega),Nat.testBit_xor,show (4294967295:Nat)=2 ^ 32 - 1 from rfl,Nat.testBit_two_pow_sub_one]
 by_cases hi:i<32
 ·simp [hi]
 ·have:r.testBit i=false:=Nat.testBit_lt_two_pow (Nat.lt_of_lt_of_le (show r<2 ^ 32 by omega) (Nat.pow_le_pow_right (n:=2) (by omega) (by omega)))
  simp [hi,this]
def rtst (C B:Nat):Nat→Nat
 | 0=>C
 | j+1=>if rtst C B j % 2=B / 2 ^ j % 2 then rtst C B j / 2 else rtst C B j / 2 ^^^ 2197175160
theorem rtst_even (C B j:Nat) (h:rtst C B j % 2=B / 2 ^ j % 2):rtst C B (j+1)=rtst C B j / 2:=by rw [rtst,if_pos h]
theorem rtst_odd (C B j:Nat) (h:rtst C B j % 2≠B / 2 ^ j % 2):rtst C B (j+1)=rtst C B j / 2 ^^^ 2197175160:=by rw [rtst,if_neg h]
theorem rtst_lt (C B:Nat) (h:C<4294967296):∀ j,rtst C B j<4294967296:=by
 intro j
 induction j with
 | zero=>exact h
 | succ j ih =>
   rw [rtst]
   split
   ·omega
   ·have:rtst C B j / 2 ^^^ 2197175160<2 ^ 32:=Nat.xor_lt_two_pow (by omega) (by omega)
    omega
theorem rtst_tsts (C B:Nat):∀ j,tsts j (C ^^^ B)=rtst C B j ^^^ B / 2 ^ j:=by
 intro j
 induction j with
 | zero=>simp [tsts,rtst]
 | succ j ih =>
   rw [tsts_succ,ih,rtst,Nat.pow_succ,← Nat.div_div_eq_div_mul]
   generalize rtst C B j=r
   generalize B / 2 ^ j=b
   unfold tst
   rw [Nat.xor_div_two]
   have hm:=@Nat.xor_mod_two_eq_one r b
   have ha:r % 2=0∨r % 2=1:=by omega
   have hb:b % 2=0∨b % 2=1:=by omega
   have hx:(r ^^^ b) % 2=0∨(r ^^^ b) % 2=1:=by omega
   rcases ha with ha | ha <;> rcases hb with hb | hb <;> rcases hx with hx | hx <;> simp [ha,hb,hx] at hm ⊢
   ·rw [xor_rc]
   ·rw [xor_rc]
theorem rtst_eight (C B:Nat) (h:B<256):tsts 8 (C ^^^ B)=rtst C B 8:=by
 rw [rtst_tsts,Nat.div_eq_of_lt (by omega),Nat.xor_zero]
end Go.Proofs.YtlpgbmaoenncjaaGreatDoor
namespace Go.Proofs.YtlpgbmaoenncjaaGreatDoor
open Go.RowKit
set_option maxHeartbeats 400000 in
theorem frSum_any (s:ByteArray) (w:World) (hs:s.size≤maxLen) (v:Int) (hv:Hid (v=(sum32 s.data.toList:Int))) :
 Calls Tryz.prog 89 #[.string s] w fun e w'=>e = .returned (.int .u32 v)∧w=w':=by
 unfold maxLen at hs
 go_enter Tryz.func89,Tryz.ntmps89
 go_wp2
 go_loop [3,7] (fun c i=>∃ k:Nat,k≤s.size∧i = .int .i64 k∧c = .int .u32 (crc 4294967295 (s.data.toList.take k):Int)) (fun _ i=>s.size - (intOf i).toNat)
 case atStart=>exact⟨0,Nat.zero_le _,rfl,rfl⟩
 case round =>
  obtain⟨k,hk,rfl,rfl⟩:=hrel
  have hc:=crc_lt (s.data.toList.take k) 4294967295 (by omega)
  by_cases hlt:k<s.size
  ·have hxb:=bits_xor_u32_nat _ _ hc (show s[k].toNat<4294967296 by have:=byte_lt s[k]; omega)
   have hl:=xor_byte_lt _ s[k] hc
   have hb:=byte_lt s[k]
   have hn:=crc_snoc 4294967295 (s.data.toList.take k) s[k]
   rw [← take_snoc s k hlt] at hn
   have HN:=Lib.hid hn
   clear hn
   generalize crc 4294967295 (s.data.toList.take k)=C at *
   go_wp2
   clear hxb
   generalize C ^^^ s[k].toNat=X at *
   go_loop [3,16] (fun c i=>∃ j:Nat,j≤8∧i = .int .i64 j∧c = .int .u32 (tsts j X:Int)) (fun _ i=>8 - (intOf i).toNat)
   case atStart=>exact⟨0,Nat.zero_le _,rfl,rfl⟩
   case round =>
    obtain⟨j,hj,rfl,rfl⟩:=hrel
    by_cases hjt:j<8
    ·have hq:=tst_int _ (tsts_lt j X hl)
     have HQ:=Lib.hid hq
     clear hq
     have hs1:=tsts_succ j X
     have HS:=Lib.hid hs1
     clear hs1
     go_wp2
     refine⟨⟨j+1,by omega,by go_num,?_⟩,by simp [intOf]; omega⟩
     rw [HS.out,HQ.out]
    ·obtain rfl:j=8:=by omega
     go_wp2
     refine⟨⟨k+1,by omega,by go_num,?_⟩,by simp [intOf]; omega⟩
     rw [HN.out]
  ·have hm:IntKind.u32.max=((4294967295:Nat):Int):=by decide
   have hx:=bits_xor_u32_nat 4294967295 _ (by omega) hc
   have HX:=Lib.hid hx
   have HM:=Lib.hid hm
   clear hx hm
   go_wp2
   go_ret
   refine⟨ret_int ?_,rfl⟩
   rw [hv.out,HM.out,HX.out,take_all s k hlt]
   rfl
set_option maxHeartbeats 400000 in
theorem reSum_any (s:ByteArray) (w:World) (hs:s.size≤maxLen) (v:Int) (hv:Hid (v=(sum32 s.data.toList:Int))) :
 Calls Tryz.prog 91 #[.string s] w fun e w'=>e = .returned (.int .u32 v)∧w=w':=by
 unfold maxLen at hs
 go_enter Tryz.func91,Tryz.ntmps91
 go_wp2
 go_loop [3,4] (fun c i=>∃ k:Nat,k≤s.size∧i = .int .i64 k∧c = .int .u32 (crc 4294967295 (s.data.toList.take k):Int)) (fun _ i=>s.size - (intOf i).toNat)
 case atStart=>exact⟨0,Nat.zero_le _,rfl,rfl⟩
 case round =>
  obtain⟨k,hk,rfl,rfl⟩:=hrel
  have hc:=crc_lt (s.data.toList.take k) 4294967295 (by omega)
  by_cases hlt:k<s.size
  ·have hn:=crc_snoc 4294967295 (s.data.toList.take k) s[k]
   rw [← take_snoc s k hlt] at hn
   have HN:=Lib.hid hn
   clear hn
   have hb:=byte_lt s[k]
   generalize crc 4294967295 (s.data.toList.take k)=C at *
   go_wp2
   generalize s[k].toNat=B at *
   go_loop [3,5,6] (fun c b i=>∃ j:Nat,j≤8∧i = .int .i64 j∧c = .int .u32 (rtst C B j:Int)∧b = .int .u32 ((B / 2 ^ j:Nat):Int)) (fun _ _ i=>8 - (intOf i).toNat)
   case atStart=>exact⟨0,Nat.zero_le _,rfl,rfl,by simp⟩
   case round =>
    obtain⟨j,hj,rfl,rfl,rfl⟩:=hrel
    by_cases hjt:j<8
    ·have hr:=rtst_lt C B hc j
     have hs0:rtst C B j % 2=B / 2 ^ j % 2→rtst C B (j+1)=rtst C B j / 2:=rtst_even C B j
     have hs1:rtst C B j % 2≠B / 2 ^ j % 2→rtst C B (j+1)=rtst C B j / 2 ^^^ 2197175160:=rtst_odd C B j
     have hd:B / 2 ^ (j+1)=B / 2 ^ j / 2:=by rw [Nat.pow_succ,Nat.div_div_eq_div_mul]
     have hbl:B / 2 ^ j≤B:=Nat.div_le_self _ _
     have hx:=bits_xor_u32_nat (rtst C B j / 2) 2197175160 (by omega) (by omega)
     have H0:=Lib.hid hs0
     have H1:=Lib.hid hs1
     have HD:=Lib.hid hd
     have HX:=Lib.hid hx
     clear hs0 hs1 hd hx HN
     by_cases hz:rtst C B j % 2=B / 2 ^ j % 2
     ·have HR:=Lib.hid (H0.out hz)
      generalize rtst C B j=R at *
      generalize B / 2 ^ j=Bj at *
      have hz1:(((R:Int) % 2) != ((Bj:Int) % 2))=false:=by simp; omega
      go_wp2
      refine⟨⟨j+1,by omega,by go_num,?_,?_⟩,by simp [intOf]; omega⟩
      ·rw [HR.out]; exact val_int (by omega)
      ·rw [HD.out]; exact val_int (by omega)
     ·have HR:=Lib.hid (H1.out hz)
      generalize rtst C B j=R at *
      generalize B / 2 ^ j=Bj at *
      have hz1:(((R:Int) % 2) != ((Bj:Int) % 2))=true:=by simp; omega
      go_wp2
      refine⟨⟨j+1,by omega,by go_num,?_,?_⟩,by simp [intOf]; omega⟩
      ·rw [HR.out,← HX.out]; exact val_int (by congr 1)
      ·rw [HD.out]; exact val_int (by omega)
    ·obtain rfl:j=8:=by omega
     go_wp2
     refine⟨⟨k+1,by omega,by go_num,?_⟩,by simp [intOf]; omega⟩
     rw [HN.out,rtst_eight C B hb]
  ·have hms:=max_sub _ hc
   have HM:=Lib.hid hms
   clear hms
   go_wp2
   go_ret
   refine⟨ret_int ?_,rfl⟩
   have h1:=HM.out
   rw [take_all s k hlt] at h1 hc ⊢
   rw [hv.out,sum32,← h1]
   omega
end Go.Proofs.YtlpgbmaoenncjaaGreatDoor
namespace Go.Proofs.YtlpgbmaoenncjaaGreatDoor
open Go.RowKit
theorem conv4 (w:World) (a b c d:Int) :
 (convert 120 9 (.slice (some ⟨w.heap.size,0,none⟩) 4 4)).run Tryz.prog (w.alloc (.cells #[.int .u8 a,.int .u8 b,.int .u8 c,.int .u8 d] 5)) =
   .ok (.string (strOfNums [a,b,c,d])) (w.alloc (.cells #[.int .u8 a,.int .u8 b,.int .u8 c,.int .u8 d] 5)):=by
 refine run_convert_bytes_arg _ 120 5 Tryz.underlying120 Tryz.underlying5 w.heap.size 0 4 4 [a,b,c,d] rfl ?_ 9 Tryz.underlying9
 intro i hi
 match i,hi with
 | 0,_=>rw [World.cell?_alloc_mark]; rfl
 | 1,_=>rw [World.cell?_alloc_mark]; rfl
 | 2,_=>rw [World.cell?_alloc_mark]; rfl
 | 3,_=>rw [World.cell?_alloc_mark]; rfl
def four (n:Int):ByteArray:=strOfNums [n % 256,n / 256 % 256,n / 65536 % 256,n / 16777216]
theorem four_size (n:Int):(four n).size=4:=by simp [four,strOfNums_size]
set_option maxHeartbeats 400000 in
theorem frFour_any (n:Int) (w:World) (h0:0≤n) (h1:n<4294967296) :
 Calls Tryz.prog 88 #[.int .u32 n] w fun e w'=>e = .returned (.string (four n))∧Below w.heap.size w w':=by
 have hcv:=conv4 w (n % 256) (n / 256 % 256) (n / 65536 % 256) (n / 16777216)
 go_enter Tryz.func88,Tryz.ntmps88
 go_wp2
 go_ret
 exact⟨rfl,(Below.refl _ _).alloc (Nat.le_refl _) _⟩
set_option maxHeartbeats 400000 in
theorem reFour_any (n:Int) (w:World) (h0:0≤n) (h1:n<4294967296) :
 Calls Tryz.prog 90 #[.int .u32 n] w fun e w'=>e = .returned (.string (four n))∧Below w.heap.size w w':=by
 have hcv:=conv4 w (n % 256) (n / 256 % 256) (n / 65536 % 256) (n / 16777216)
 go_enter Tryz.func90,Tryz.ntmps90
 go_wp2
 go_ret
 exact⟨rfl,(Below.refl _ _).alloc (Nat.le_refl _) _⟩
def sumI (s:ByteArray):Int:=(sum32 s.data.toList:Int)
theorem sumI_lo (s:ByteArray):0≤sumI s:=by unfold sumI; omega
theorem sumI_hi (s:ByteArray):sumI s<4294967296:=by unfold sumI; have:=sum32_lt s.data.toList; omega
def head4 (s:ByteArray):ByteArray:=four (s.size:Int)
def frameOf (s:ByteArray):ByteArray:=head4 s++four (sumI (head4 s))++s++four (sumI s)
theorem frameOf_size (s:ByteArray):(frameOf s).size=s.size+12:=by
 simp [frameOf,head4,four_size]; omega
theorem head4_size (s:ByteArray):(head4 s).size=4:=by rw [head4,four_size]
theorem frSumI_any (s:ByteArray) (w:World) (hs:s.size≤maxLen) :
 Calls Tryz.prog 89 #[.string s] w fun e w'=>e = .returned (.int .u32 (sumI s))∧w=w':=frSum_any s w hs _ rfl
theorem reSumI_any (s:ByteArray) (w:World) (hs:s.size≤maxLen) :
 Calls Tryz.prog 91 #[.string s] w fun e w'=>e = .returned (.int .u32 (sumI s))∧w=w':=reSum_any s w hs _ rfl
theorem frHead_any (s:ByteArray) (w:World) (h:s.size≤65536) :
 Calls Tryz.prog 88 #[.int .u32 (s.size:Int)] w fun e w'=>e = .returned (.string (head4 s))∧Below w.heap.size w w':=frFour_any _ _ (by omega) (by omega)
theorem reHead_any (s:ByteArray) (w:World) (h:s.size≤65536) :
 Calls Tryz.prog 90 #[.int .u32 (s.size:Int)] w fun e w'=>e = .returned (.string (head4 s))∧Below w.heap.size w w':=reFour_any _ _ (by omega) (by omega)
theorem frameOf_eq (s:ByteArray):head4 s++four (sumI (head4 s))++s++four (sumI s)=frameOf s:=rfl
attribute [irreducible] sumI four head4 frameOf
set_option maxHeartbeats 400000 in
theorem frPut_any (s:ByteArray) (w:World) (h:s.size≤65536) :
 Calls Tryz.prog 40 #[.string s] w fun e w'=>e = .returned (.tuple #[.string (frameOf s),.int .i64 0])∧Below w.heap.size w w':=by
 have hml0:s.size≤maxLen:=by unfold maxLen; omega
 have hl1:=Lib.hid (sumI_lo s)
 have hl2:=Lib.hid (sumI_hi s)
 have hl3:=Lib.hid (sumI_lo (head4 s))
 have hl4:=Lib.hid (sumI_hi (head4 s))
 have hh0:(head4 s).size≤maxLen:=by rw [head4_size]; decide
 have hh:=Lib.hid hh0
 have e1:=head4_size s
 have e2:=four_size (sumI (head4 s))
 have e3:=four_size (sumI s)
 have hml:=Lib.hid hml0
 clear hh0 hml0
 go_enter Tryz.func40,Tryz.ntmps40
 go_wp2_with fail
 refine (frHead_any s _ h).mono ?_
 rintro e w1 ⟨rfl,hb1⟩
 go_wp2_with fail
 refine (frSumI_any (head4 s) _ hh.out).mono ?_
 rintro e w2 ⟨rfl,rfl⟩
 go_wp2_with fail
 refine (frFour_any _ _ hl3.out hl4.out).mono ?_
 rintro e w3 ⟨rfl,hb3⟩
 go_wp2_with fail
 refine (frSumI_any s _ hml.out).mono ?_
 rintro e w4 ⟨rfl,rfl⟩
 go_wp2_with fail
 refine (frFour_any _ _ hl1.out hl2.out).mono ?_
 rintro e w5 ⟨rfl,hb5⟩
 go_wp2
 go_ret2
 exact⟨by rw [← frameOf_eq]; rfl,(hb1.trans (hb3.mono hb1.size)).trans (hb5.mono (Nat.le_trans hb1.size hb3.size))⟩
set_option maxHeartbeats 400000 in
theorem reFrame_any (s:ByteArray) (w:World) (h:s.size≤65536) :
 Calls Tryz.prog 41 #[.string s] w fun e w'=>e = .returned (.string (frameOf s))∧Below w.heap.size w w':=by
 have hml0:s.size≤maxLen:=by unfold maxLen; omega
 have hl1:=Lib.hid (sumI_lo s)
 have hl2:=Lib.hid (sumI_hi s)
 have hl3:=Lib.hid (sumI_lo (head4 s))
 have hl4:=Lib.hid (sumI_hi (head4 s))
 have hh0:(head4 s).size≤maxLen:=by rw [head4_size]; decide
 have hh:=Lib.hid hh0
 have e1:=head4_size s
 have e2:=four_size (sumI (head4 s))
 have e3:=four_size (sumI s)
 have hml:=Lib.hid hml0
 clear hh0 hml0
 go_enter Tryz.func41,Tryz.ntmps41
 go_wp2_with fail
 refine (reHead_any s _ h).mono ?_
 rintro e w1 ⟨rfl,hb1⟩
 go_wp2_with fail
 refine (reSumI_any (head4 s) _ hh.out).mono ?_
 rintro e w2 ⟨rfl,rfl⟩
 go_wp2_with fail
 refine (reFour_any _ _ hl3.out hl4.out).mono ?_
 rintro e w3 ⟨rfl,hb3⟩
 go_wp2_with fail
 refine (reSumI_any s _ hml.out).mono ?_
 rintro e w4 ⟨rfl,rfl⟩
 go_wp2_with fail
 refine (reFour_any _ _ hl1.out hl2.out).mono ?_
 rintro e w5 ⟨rfl,hb5⟩
 go_wp2
 go_ret
 exact⟨by rw [← frameOf_eq]; rfl,(hb1.trans (hb3.mono hb1.size)).trans (hb5.mono (Nat.le_trans hb1.size hb3.size))⟩
end Go.Proofs.YtlpgbmaoenncjaaGreatDoor
namespace Go.Proofs.YtlpgbmaoenncjaaGreatDoor
def num4 (l:List UInt8):Nat:=(l[0]?.getD 0).toNat+256*(l[1]?.getD 0).toNat+65536*(l[2]?.getD 0).toNat+16777216*(l[3]?.getD 0).toNat
def le4 (n:Nat):List UInt8:=[UInt8.ofNat (n % 256),UInt8.ofNat (n / 256 % 256),UInt8.ofNat (n / 65536 % 256),UInt8.ofNat (n / 16777216)]
theorem le4_length (n:Nat):(le4 n).length=4:=rfl
theorem ofNat_small (m:Nat) (h:m<256):(UInt8.ofNat m).toNat=m:=by
 rw [UInt8.toNat_ofNat']; exact Nat.mod_eq_of_lt h
theorem num4_le4 (n:Nat) (h:n<4294967296) (r:List UInt8):num4 (le4 n++r)=n:=by
 have e:num4 (le4 n++r)=(UInt8.ofNat (n % 256)).toNat+256*(UInt8.ofNat (n / 256 % 256)).toNat+65536*(UInt8.ofNat (n / 65536 % 256)).toNat+16777216*(UInt8.ofNat (n / 16777216)).toNat:=rfl
 rw [e,ofNat_small _ (by omega),ofNat_small _ (by omega),ofNat_small _ (by omega),ofNat_small _ (by omega)]
 omega
theorem le4_num4 (l:List UInt8) (h:l.length=4):le4 (num4 l)=l:=by
 match l,h with
 | [a,b,c,d],_ =>
   have ha:=byte_lt a; have hb:=byte_lt b; have hc:=byte_lt c; have hd:=byte_lt d
   have e:num4 [a,b,c,d]=a.toNat+256*b.toNat+65536*c.toNat+16777216*d.toNat:=rfl
   rw [e]
   unfold le4
   have g:∀ (x:UInt8) (m:Nat),m=x.toNat→UInt8.ofNat m=x:=fun x m hm=>by rw [hm]; exact UInt8.ofNat_toNat
   rw [g a _ (by omega),g b _ (by omega),g c _ (by omega),g d _ (by omega)]
theorem num4_take (l:List UInt8):num4 (l.take 4)=num4 l:=by
 unfold num4
 simp
def frameL (b:List UInt8):List UInt8:=le4 b.length++le4 (sum32 (le4 b.length))++b++le4 (sum32 b)
def oneL (l:List UInt8):Option (List UInt8) :=
 if l.length<12 then none
 else if sum32 (l.take 4)≠num4 (l.drop 4) then none
 else if 65536<num4 l∨l.length - 12<num4 l then none
 else if sum32 ((l.drop 8).take (num4 l))≠num4 (l.drop (8+num4 l)) then none
 else some ((l.drop 8).take (num4 l))
def oneR (l:List UInt8):Option (List UInt8) :=
 if l.length<12 then none
 else if 65536<num4 l∨l.length<num4 l+12 then none
 else if frameL ((l.drop 8).take (num4 l))=l.take (num4 l+12) then some ((l.drop 8).take (num4 l)) else none
theorem split4 (l:List UInt8) (n:Nat) (_h:n+12≤l.length):l.take (n+12)=l.take 4++(l.drop 4).take 4++(l.drop 8).take n++(l.drop (8+n)).take 4:=by
 have e1:n+12=4+(4+(n+4)):=by omega
 rw [e1,List.take_add,List.take_add,List.take_add,List.drop_drop,List.drop_drop]
 simp only [List.append_assoc]
theorem app4 {a b c d a' b' c' d':List UInt8}(ha:a.length=a'.length) (hb:b.length=b'.length) (hc:c.length=c'.length):a++b++c++d=a'++b'++c'++d'↔a=a'∧b=b'∧c=c'∧d=d':=by
 simp only [List.append_assoc]
 constructor
 ·intro h
  obtain⟨h1,h⟩:=List.append_inj h ha
  obtain⟨h2,h⟩:=List.append_inj h hb
  obtain⟨h3,h4⟩:=List.append_inj h hc
  exact⟨h1,h2,h3,h4⟩
 ·rintro⟨rfl,rfl,rfl,rfl⟩; rfl
theorem oneR_eq (l:List UInt8):oneR l=oneL l:=by
 unfold oneR oneL
 by_cases h12:l.length<12
 ·rw [if_pos h12,if_pos h12]
 ·rw [if_neg h12,if_neg h12]
  by_cases hn:65536<num4 l∨l.length<num4 l+12
  ·rw [if_pos hn]
   by_cases hs:sum32 (l.take 4)≠num4 (l.drop 4)
   ·rw [if_pos hs]
   ·rw [if_neg hs,if_pos (by omega)]
  ·rw [if_neg hn]
   have hb:((l.drop 8).take (num4 l)).length=num4 l:=by simp; omega
   have hhead:le4 (num4 l)=l.take 4:=by rw [← num4_take,le4_num4 _ (by simp; omega)]
   have hiff:frameL ((l.drop 8).take (num4 l))=l.take (num4 l+12)↔sum32 (l.take 4)=num4 (l.drop 4)∧sum32 ((l.drop 8).take (num4 l))=num4 (l.drop (8+num4 l)):=by
    rw [split4 l (num4 l) (by omega)]
    unfold frameL
    rw [hb,hhead,app4 rfl (by rw [le4_length]; simp; omega) rfl]
    have g:∀ (x:Nat) (m:List UInt8),x<4294967296→4≤m.length→(le4 x=m.take 4↔x=num4 m):=by
     intro x m hx hm
     constructor
     ·intro h
      have:=num4_le4 x hx []
      rw [List.append_nil,h,num4_take] at this; exact this.symm
     ·intro h; rw [h,← num4_take,le4_num4 _ (by simp; omega)]
    rw [g _ _ (sum32_lt _) (by simp; omega),g _ _ (sum32_lt _) (by simp; omega)]
    simp
   by_cases hs:sum32 (l.take 4)≠num4 (l.drop 4)
   ·rw [if_pos hs,if_neg (fun h=>hs (hiff.1 h).1)]
   ·rw [if_neg hs,if_neg (show ¬ (65536<num4 l∨l.length - 12<num4 l) by omega)]
    by_cases ht:sum32 ((l.drop 8).take (num4 l))≠num4 (l.drop (8+num4 l))
    ·rw [if_pos ht,if_neg (fun h=>ht (hiff.1 h).2)]
    ·rw [if_neg ht,if_pos (hiff.2 ⟨by simpa using hs,by simpa using ht⟩)]
theorem oneL_some {l b:List UInt8}(h:oneL l=some b):b.length≤65536∧b.length+12≤l.length∧b=(l.drop 8).take b.length∧b.length=num4 l∧frameL b=l.take (b.length+12):=by
 have h2:=h
 rw [← oneR_eq] at h2
 unfold oneR at h2
 by_cases h12:l.length<12
 ·rw [if_pos h12] at h2; cases h2
 ·rw [if_neg h12] at h2
  by_cases hn:65536<num4 l∨l.length<num4 l+12
  ·rw [if_pos hn] at h2; cases h2
  ·rw [if_neg hn] at h2
   by_cases hf:frameL ((l.drop 8).take (num4 l))=l.take (num4 l+12)
   ·rw [if_pos hf] at h2
    cases h2
    have hb:((l.drop 8).take (num4 l)).length=num4 l:=by simp; omega
    rw [hb]
    exact⟨by omega,by omega,rfl,rfl,hf⟩
   ·rw [if_neg hf] at h2; cases h2
inductive Told (l:List UInt8):List (List UInt8)→Nat→Prop where
 | start:Told l [] 0
 | step {r:List (List UInt8)}{k:Nat}{b:List UInt8}:Told l r k→oneL (l.drop k)=some b→Told l (r++[b]) (k+b.length+12)
theorem Told.le {l:List UInt8}{r:List (List UInt8)}{k:Nat}(h:Told l r k):k≤l.length:=by
 cases h with
 | start=>omega
 | step hr hb =>
   obtain⟨_,h2,_⟩:=oneL_some hb
   simp at h2; omega
def bods:Nat→List UInt8→List (List UInt8)
 | 0,_=>[]
 | f+1,l=>match oneL l with
   | none=>[]
   | some b=>b :: bods f (l.drop (b.length+12))
def bodies (l:List UInt8):List (List UInt8):=bods l.length l
theorem bods_enough:∀ f g (l:List UInt8),l.length≤f→l.length≤g→bods f l=bods g l:=by
 intro f
 induction f with
 | zero =>
   intro g l h _
   have hl:l=[]:=List.eq_nil_of_length_eq_zero (by omega)
   subst hl
   cases g with
   | zero=>rfl
   | succ g=>rfl
 | succ f ih =>
   intro g l h1 h2
   cases g with
   | zero =>
     have hl:l=[]:=List.eq_nil_of_length_eq_zero (by omega)
     subst hl; rfl
   | succ g =>
     simp only [bods]
     cases hb:oneL l with
     | none=>rfl
     | some b =>
       obtain⟨_,h4,_⟩:=oneL_some hb
       simp only
       rw [ih g _ (by simp; omega) (by simp; omega)]
theorem bodies_none (l:List UInt8) (h:oneL l=none):bodies l=[]:=by
 unfold bodies
 cases l with
 | nil=>rfl
 | cons x l=>simp only [List.length_cons,bods,h]
theorem bodies_some (l b:List UInt8) (h:oneL l=some b):bodies l=b :: bodies (l.drop (b.length+12)):=by
 obtain⟨_,h4,_⟩:=oneL_some h
 unfold bodies
 obtain⟨n,hn⟩:∃ n,l.length=n+1:=⟨l.length - 1,by omega⟩
 rw [hn]
 simp only [bods,h]
 rw [bods_enough n _ _ (by simp; omega) (Nat.le_refl _)]
def taken (r:List (List UInt8)):Nat:=(r.map fun b=>b.length+12).sum
theorem taken_snoc (r:List (List UInt8)) (b:List UInt8):taken (r++[b])=taken r+b.length+12:=by simp [taken]; omega
theorem Told.bodies {l:List UInt8}{r:List (List UInt8)}{k:Nat}(h:Told l r k):Go.Proofs.YtlpgbmaoenncjaaGreatDoor.bodies l=r++Go.Proofs.YtlpgbmaoenncjaaGreatDoor.bodies (l.drop k):=by
 induction h with
 | start=>simp
 | step hr hb ih =>
   rename_i r k b
   rw [ih,bodies_some _ _ hb,List.drop_drop]
   simp [Nat.add_assoc]
theorem Told.taken {l:List UInt8}{r:List (List UInt8)}{k:Nat}(h:Told l r k):k=Go.Proofs.YtlpgbmaoenncjaaGreatDoor.taken r:=by
 induction h with
 | start=>rfl
 | step hr hb ih=>rw [taken_snoc,← ih]
theorem Told.done {l:List UInt8}{r:List (List UInt8)}{k:Nat}(h:Told l r k) (he:oneL (l.drop k)=none):Go.Proofs.YtlpgbmaoenncjaaGreatDoor.bodies l=r∧Go.Proofs.YtlpgbmaoenncjaaGreatDoor.taken (Go.Proofs.YtlpgbmaoenncjaaGreatDoor.bodies l)=k:=by
 have h1:Go.Proofs.YtlpgbmaoenncjaaGreatDoor.bodies l=r:=by rw [h.bodies,bodies_none _ he,List.append_nil]
 rw [h1]
 exact⟨rfl,h.taken.symm⟩
end Go.Proofs.YtlpgbmaoenncjaaGreatDoor
namespace Go.Proofs.YtlpgbmaoenncjaaGreatDoor
open Go.RowKit
set_option linter.unusedVariables false
end Go.Proofs.YtlpgbmaoenncjaaGreatDoor
namespace Go.Proofs.YtlpgbmaoenncjaaGreatDoor
open Go.RowKit
set_option linter.unusedVariables false
end Go.Proofs.YtlpgbmaoenncjaaGreatDoor
namespace Go.Proofs.YtlpgbmaoenncjaaGreatDoor
open Go.RowKit Go.Shelf
attribute [local go_sem] Oper.semAt_some
set_option linter.unusedVariables false
def lastAt (pre:List (Nat × ByteArray)):Nat:=(pre.getLast?.map (·.1)).getD 0
theorem lastAt_snoc (pre:List (Nat × ByteArray)) (x:Nat × ByteArray):lastAt (pre++[x])=x.1:=by simp [lastAt]
def TP (l:List UInt8) (pre:List (Nat × ByteArray)):Prop:=Told l (pre.map fun x=>x.2.data.toList) (lastAt pre)
theorem TP.start (l:List UInt8):TP l []:=Told.start
theorem TP.step {l:List UInt8}{pre:List (Nat × ByteArray)}(h:TP l pre) (t:ByteArray) (ho:oneL (l.drop (lastAt pre))=some t.data.toList):TP l (pre++[(lastAt pre+t.size+12,t)]):=by
 unfold TP
 rw [lastAt_snoc,List.map_append,size_len]
 exact Told.step h ho
end Go.Proofs.YtlpgbmaoenncjaaGreatDoor
namespace Go.Proofs.YtlpgbmaoenncjaaGreatDoor
open Go.RowKit Go.Shelf
attribute [local go_sem] Oper.semAt_some
set_option linter.unusedVariables false
end Go.Proofs.YtlpgbmaoenncjaaGreatDoor

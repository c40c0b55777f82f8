/-
  The sum of a text as plain numbers: the program's way and the reference's way are one, and a difference within 32 bits is always seen; plain law, without a condition.
  The walks of frame.Sum and of the reference's Sum: on any text both return sum32 of its bytes; the world stays.
  The walks of frame.four, frame.Put and the reference's Four and Frame: both make one text; new blocks alone are made.
  Frames as plain lists: the frame at a text's beginning, told in the program's way and in the reference's way; all frames from a place on; plain law, without a condition.
  The walks of frame.number and of the reference's One and Scan: the number of four bytes; the frame at a text's head; all frames of a text of at most 100000 bytes.
  The walk of the reference's Scan: the bodies of all frames of a text of at most 4000000 bytes, in a slice of one's own, and the place where the last frame ends.
  The walks of frame.frames and of the iterator that it hands back: each round is handed the place where a frame ends, and its body; for texts of at most 4000000 bytes.
  The walk of frame.Scan: it answers as the reference's Scan, at every text of at most 4000000 bytes.
-/
import Derived.Test.YtlpgbmaoenncjaaGreatDoorGen
import Derived.Test.YtlpgbmaoenncjaaGreatDoorRows
import Derived.WalkKit
import Derived.WalkSpells
import Derived.WalkLawsBesides
import Derived.Lib.Hide
import Derived.Laws.BytesArg
import Derived.Below
import Derived.RegionTactic
import Derived.ChangeAlike
import Derived.IntWalk
import Derived.Deep.RegionWith
import Derived.Deep.LoopGhost
import Derived.RangeFuncBox
import Derived.RangeFuncNested
import Derived.RangeFuncBound
import Derived.RangeFuncCalls
import Derived.RangeFuncLeaves
import Derived.Shelf.Abstract
import Derived.Shelf.RegionOpen
import Derived.OwnWalkIn
import Derived.TacticsInMore
import Derived.LoopNIn
import Derived.LoopIn
import Derived.Maps.AppendAt
import Derived.Sort.QuietIn
import Derived.Sort.LoopGhostIn
import Derived.WalkMore
import Derived.Scope
namespace Go.Proofs.YtlpgbmaoenncjaaGreatDoor
theorem ofInt32_nat (a:Nat) (ha:a<4294967296):(BitVec.ofInt 32 (a:Int)).toNat=a:=by
 rw [BitVec.ofInt_natCast,BitVec.toNat_ofNat]; exact Nat.mod_eq_of_lt (by omega)
theorem bits_xor_u32_nat (a b:Nat) (ha:a<4294967296) (hb:b<4294967296):bits .xor .u32 (a:Int) (b:Int)=((a ^^^ b:Nat):Int):=by
 have hx:a ^^^ b<2 ^ 32:=Nat.xor_lt_two_pow (by omega) (by omega)
 show IntKind.u32.wrap ((BitVec.ofInt 32 (a:Int) ^^^ BitVec.ofInt 32 (b:Int)).toNat:Int)=_
 rw [BitVec.toNat_xor,ofInt32_nat a ha,ofInt32_nat b hb,IntKind.wrap_u32]
 omega
theorem bits_and1_u32_nat (a:Nat) (ha:a<4294967296):bits .and .u32 (a:Int) 1=((a % 2:Nat):Int):=by
 show IntKind.u32.wrap ((BitVec.ofInt 32 (a:Int) &&& BitVec.ofInt 32 ((1:Nat):Int)).toNat:Int)=_
 rw [BitVec.toNat_and,ofInt32_nat a ha,ofInt32_nat 1 (by omega),IntKind.wrap_u32,Nat.and_one_is_mod]
 omega
def tst (x:Nat):Nat:=x / 2 ^^^ (if x % 2=1 then 2197175160 else 0)
def tsts:Nat→Nat→Nat
 | 0,x=>x
 | n+1,x=>tsts n (tst x)
theorem tst_lt (x:Nat) (h:x<4294967296):tst x<4294967296:=by
 have:tst x<2 ^ 32:=by
  unfold tst
  refine Nat.xor_lt_two_pow (by omega) ?_
  split <;> omega
 omega
theorem tsts_add (m n x:Nat):tsts (m+n) x=tsts n (tsts m x):=by
 induction m generalizing x with
 | zero=>simp [tsts]
 | succ m ih=>rw [show m+1+n=(m+n)+1 by omega]; simp only [tsts]; exact ih _
theorem tsts_lt (n:Nat):∀ x,x<4294967296→tsts n x<4294967296:=by
 induction n with
 | zero=>intro x h; exact h
 | succ n ih=>intro x h; exact ih _ (tst_lt x h)
theorem tsts_succ (n x:Nat):tsts (n+1) x=tst (tsts n x):=by rw [tsts_add]; rfl
theorem tst_int (n:Nat) (h:n<4294967296) :
 bits .xor .u32 ((n:Int) / 2) (2197175160*bits .and .u32 (n:Int) 1 % 4294967296)=((tst n:Nat):Int):=by
 rw [bits_and1_u32_nat n h]
 unfold tst
 rw [show ((n:Int) / 2)=((n / 2:Nat):Int) by omega]
 by_cases ho:n % 2=1
 ·rw [if_pos ho,show ((2197175160:Int)*((n % 2:Nat):Int) % 4294967296)=((2197175160:Nat):Int) by omega,bits_xor_u32_nat _ _ (by omega) (by omega)]
 ·rw [if_neg ho,show ((2197175160:Int)*((n % 2:Nat):Int) % 4294967296)=((0:Nat):Int) by omega,bits_xor_u32_nat _ _ (by omega) (by omega)]
def crc (r:Nat) (l:List UInt8):Nat:=l.foldl (fun r b=>tsts 8 (r ^^^ b.toNat)) r
def sum32 (l:List UInt8):Nat:=4294967295 ^^^ crc 4294967295 l
theorem crc_snoc (r:Nat) (l:List UInt8) (b:UInt8):crc r (l++[b])=tsts 8 (crc r l ^^^ b.toNat):=by simp [crc]
theorem xor_byte_lt (r:Nat) (b:UInt8) (h:r<4294967296):r ^^^ b.toNat<4294967296:=by
 have:r ^^^ b.toNat<2 ^ 32:=Nat.xor_lt_two_pow (by omega) (by have:=byte_lt b; omega)
 omega
theorem crc_lt (l:List UInt8):∀ r,r<4294967296→crc r l<4294967296:=by
 induction l with
 | nil=>intro r h; exact h
 | cons b l ih=>intro r h; exact ih _ (tsts_lt 8 _ (xor_byte_lt r b h))
theorem sum32_lt (l:List UInt8):sum32 l<4294967296:=by
 have:sum32 l<2 ^ 32:=Nat.xor_lt_two_pow (by omega) (by have:=crc_lt l 4294967295 (by omega); omega)
 omega
end Go.Proofs.YtlpgbmaoenncjaaGreatDoor
namespace Go.Proofs.YtlpgbmaoenncjaaGreatDoor
open Go.RowKit
set_option maxHeartbeats 400000 in
theorem frSum_any (s:ByteArray) (w:World) (hs:s.size≤maxLen) (v:Int) (hv:Hid (v=(sum32 s.data.toList:Int))) :
 Calls Tryz.prog 89 #[.string s] w fun e w'=>e = .returned (.int .u32 v)∧w=w':=by
 unfold maxLen at hs
 go_enter Tryz.func89,Tryz.ntmps89
 go_wp2
 go_loop [3,7] (fun c i=>∃ k:Nat,k≤s.size∧i = .int .i64 k∧c = .int .u32 (crc 4294967295 (s.data.toList.take k):Int)) (fun _ i=>s.size - (intOf i).toNat)
 case atStart=>exact⟨0,Nat.zero_le _,rfl,rfl⟩
 case round =>
  obtain⟨k,hk,rfl,rfl⟩:=hrel
  have hc:=crc_lt (s.data.toList.take k) 4294967295 (by omega)
  by_cases hlt:k<s.size
  ·have hxb:=bits_xor_u32_nat _ _ hc (show s[k].toNat<4294967296 by have:=byte_lt s[k]; omega)
   have hl:=xor_byte_lt _ s[k] hc
   have hb:=byte_lt s[k]
   have hn:=crc_snoc 4294967295 (s.data.toList.take k) s[k]
   rw [← take_snoc s k hlt] at hn
   have HN:=Lib.hid hn
   clear hn
   generalize crc 4294967295 (s.data.toList.take k)=C at *
   go_wp2
   clear hxb
   generalize C ^^^ s[k].toNat=X at *
   go_loop [3,16] (fun c i=>∃ j:Nat,j≤8∧i = .int .i64 j∧c = .int .u32 (tsts j X:Int)) (fun _ i=>8 - (intOf i).toNat)
   case atStart=>exact⟨0,Nat.zero_le _,rfl,rfl⟩
   case round =>
    obtain⟨j,hj,rfl,rfl⟩:=hrel
    by_cases hjt:j<8
    ·have hq:=tst_int _ (tsts_lt j X hl)
     have HQ:=Lib.hid hq
     clear hq
     have hs1:=tsts_succ j X
     have HS:=Lib.hid hs1
     clear hs1
     go_wp2
     refine⟨⟨j+1,by omega,by go_num,?_⟩,by simp [intOf]; omega⟩
     rw [HS.out,HQ.out]
    ·obtain rfl:j=8:=by omega
     go_wp2
     refine⟨⟨k+1,by omega,by go_num,?_⟩,by simp [intOf]; omega⟩
     rw [HN.out]
  ·have hm:IntKind.u32.max=((4294967295:Nat):Int):=by decide
   have hx:=bits_xor_u32_nat 4294967295 _ (by omega) hc
   have HX:=Lib.hid hx
   have HM:=Lib.hid hm
   clear hx hm
   go_wp2
   go_ret
   refine⟨ret_int ?_,rfl⟩
   rw [hv.out,HM.out,HX.out,take_all s k hlt]
   rfl
end Go.Proofs.YtlpgbmaoenncjaaGreatDoor
namespace Go.Proofs.YtlpgbmaoenncjaaGreatDoor
open Go.RowKit
theorem conv4 (w:World) (a b c d:Int) :
 (convert 120 9 (.slice (some ⟨w.heap.size,0,none⟩) 4 4)).run Tryz.prog (w.alloc (.cells #[.int .u8 a,.int .u8 b,.int .u8 c,.int .u8 d] 5)) =
   .ok (.string (strOfNums [a,b,c,d])) (w.alloc (.cells #[.int .u8 a,.int .u8 b,.int .u8 c,.int .u8 d] 5)):=by
 refine run_convert_bytes_arg _ 120 5 Tryz.underlying120 Tryz.underlying5 w.heap.size 0 4 4 [a,b,c,d] rfl ?_ 9 Tryz.underlying9
 intro i hi
 match i,hi with
 | 0,_=>rw [World.cell?_alloc_mark]; rfl
 | 1,_=>rw [World.cell?_alloc_mark]; rfl
 | 2,_=>rw [World.cell?_alloc_mark]; rfl
 | 3,_=>rw [World.cell?_alloc_mark]; rfl
def four (n:Int):ByteArray:=strOfNums [n % 256,n / 256 % 256,n / 65536 % 256,n / 16777216]
theorem four_size (n:Int):(four n).size=4:=by simp [four,strOfNums_size]
set_option maxHeartbeats 400000 in
theorem frFour_any (n:Int) (w:World) (h0:0≤n) (h1:n<4294967296) :
 Calls Tryz.prog 88 #[.int .u32 n] w fun e w'=>e = .returned (.string (four n))∧Below w.heap.size w w':=by
 have hcv:=conv4 w (n % 256) (n / 256 % 256) (n / 65536 % 256) (n / 16777216)
 go_enter Tryz.func88,Tryz.ntmps88
 go_wp2
 go_ret
 exact⟨rfl,(Below.refl _ _).alloc (Nat.le_refl _) _⟩
def sumI (s:ByteArray):Int:=(sum32 s.data.toList:Int)
theorem sumI_lo (s:ByteArray):0≤sumI s:=by unfold sumI; omega
theorem sumI_hi (s:ByteArray):sumI s<4294967296:=by unfold sumI; have:=sum32_lt s.data.toList; omega
def head4 (s:ByteArray):ByteArray:=four (s.size:Int)
def frameOf (s:ByteArray):ByteArray:=head4 s++four (sumI (head4 s))++s++four (sumI s)
theorem frameOf_size (s:ByteArray):(frameOf s).size=s.size+12:=by
 simp [frameOf,head4,four_size]; omega
theorem head4_size (s:ByteArray):(head4 s).size=4:=by rw [head4,four_size]
theorem frSumI_any (s:ByteArray) (w:World) (hs:s.size≤maxLen) :
 Calls Tryz.prog 89 #[.string s] w fun e w'=>e = .returned (.int .u32 (sumI s))∧w=w':=frSum_any s w hs _ rfl
theorem frHead_any (s:ByteArray) (w:World) (h:s.size≤65536) :
 Calls Tryz.prog 88 #[.int .u32 (s.size:Int)] w fun e w'=>e = .returned (.string (head4 s))∧Below w.heap.size w w':=frFour_any _ _ (by omega) (by omega)
theorem frameOf_eq (s:ByteArray):head4 s++four (sumI (head4 s))++s++four (sumI s)=frameOf s:=rfl
attribute [irreducible] sumI four head4 frameOf
set_option maxHeartbeats 400000 in
theorem frPut_any (s:ByteArray) (w:World) (h:s.size≤65536) :
 Calls Tryz.prog 40 #[.string s] w fun e w'=>e = .returned (.tuple #[.string (frameOf s),.int .i64 0])∧Below w.heap.size w w':=by
 have hml0:s.size≤maxLen:=by unfold maxLen; omega
 have hl1:=Lib.hid (sumI_lo s)
 have hl2:=Lib.hid (sumI_hi s)
 have hl3:=Lib.hid (sumI_lo (head4 s))
 have hl4:=Lib.hid (sumI_hi (head4 s))
 have hh0:(head4 s).size≤maxLen:=by rw [head4_size]; decide
 have hh:=Lib.hid hh0
 have e1:=head4_size s
 have e2:=four_size (sumI (head4 s))
 have e3:=four_size (sumI s)
 have hml:=Lib.hid hml0
 clear hh0 hml0
 go_enter Tryz.func40,Tryz.ntmps40
 go_wp2_with fail
 refine (frHead_any s _ h).mono ?_
 rintro e w1 ⟨rfl,hb1⟩
 go_wp2_with fail
 refine (frSumI_any (head4 s) _ hh.out).mono ?_
 rintro e w2 ⟨rfl,rfl⟩
 go_wp2_with fail
 refine (frFour_any _ _ hl3.out hl4.out).mono ?_
 rintro e w3 ⟨rfl,hb3⟩
 go_wp2_with fail
 refine (frSumI_any s _ hml.out).mono ?_
 rintro e w4 ⟨rfl,rfl⟩
 go_wp2_with fail
 refine (frFour_any _ _ hl1.out hl2.out).mono ?_
 rintro e w5 ⟨rfl,hb5⟩
 go_wp2
 go_ret2
 exact⟨by rw [← frameOf_eq]; rfl,(hb1.trans (hb3.mono hb1.size)).trans (hb5.mono (Nat.le_trans hb1.size hb3.size))⟩
end Go.Proofs.YtlpgbmaoenncjaaGreatDoor
namespace Go.Proofs.YtlpgbmaoenncjaaGreatDoor
def num4 (l:List UInt8):Nat:=(l[0]?.getD 0).toNat+256*(l[1]?.getD 0).toNat+65536*(l[2]?.getD 0).toNat+16777216*(l[3]?.getD 0).toNat
theorem num4_lt (l:List UInt8):num4 l<4294967296:=by
 unfold num4
 have h0:=byte_lt (l[0]?.getD 0); have h1:=byte_lt (l[1]?.getD 0); have h2:=byte_lt (l[2]?.getD 0); have h3:=byte_lt (l[3]?.getD 0)
 omega
def le4 (n:Nat):List UInt8:=[UInt8.ofNat (n % 256),UInt8.ofNat (n / 256 % 256),UInt8.ofNat (n / 65536 % 256),UInt8.ofNat (n / 16777216)]
theorem le4_length (n:Nat):(le4 n).length=4:=rfl
theorem ofNat_small (m:Nat) (h:m<256):(UInt8.ofNat m).toNat=m:=by
 rw [UInt8.toNat_ofNat']; exact Nat.mod_eq_of_lt h
theorem num4_le4 (n:Nat) (h:n<4294967296) (r:List UInt8):num4 (le4 n++r)=n:=by
 have e:num4 (le4 n++r)=(UInt8.ofNat (n % 256)).toNat+256*(UInt8.ofNat (n / 256 % 256)).toNat+65536*(UInt8.ofNat (n / 65536 % 256)).toNat+16777216*(UInt8.ofNat (n / 16777216)).toNat:=rfl
 rw [e,ofNat_small _ (by omega),ofNat_small _ (by omega),ofNat_small _ (by omega),ofNat_small _ (by omega)]
 omega
theorem le4_num4 (l:List UInt8) (h:l.length=4):le4 (num4 l)=l:=by
 match l,h with
 | [a,b,c,d],_ =>
   have ha:=byte_lt a; have hb:=byte_lt b; have hc:=byte_lt c; have hd:=byte_lt d
   have e:num4 [a,b,c,d]=a.toNat+256*b.toNat+65536*c.toNat+16777216*d.toNat:=rfl
   rw [e]
   unfold le4
   have g:∀ (x:UInt8) (m:Nat),m=x.toNat→UInt8.ofNat m=x:=fun x m hm=>by rw [hm]; exact UInt8.ofNat_toNat
   rw [g a _ (by omega),g b _ (by omega),g c _ (by omega),g d _ (by omega)]
theorem num4_take (l:List UInt8):num4 (l.take 4)=num4 l:=by
 unfold num4
 simp
theorem four_le4 (n:Nat):(four (n:Int)).data.toList=le4 n:=by
 unfold four
 rw [strOfNums_data]
 have e1:((n:Int) % 256).toNat=n % 256:=by omega
 have e2:((n:Int) / 256 % 256).toNat=n / 256 % 256:=by omega
 have e3:((n:Int) / 65536 % 256).toNat=n / 65536 % 256:=by omega
 have e4:((n:Int) / 16777216).toNat=n / 16777216:=by omega
 simp only [List.map_cons,List.map_nil,e1,e2,e3,e4,le4]
def frameL (b:List UInt8):List UInt8:=le4 b.length++le4 (sum32 (le4 b.length))++b++le4 (sum32 b)
theorem frameL_length (b:List UInt8):(frameL b).length=b.length+12:=by simp [frameL,le4_length]; omega
theorem appl (a b:ByteArray):(a++b).data.toList=a.data.toList++b.data.toList:=by simp
theorem frameOf_list (s:ByteArray):(frameOf s).data.toList=frameL s.data.toList:=by
 have h1:(head4 s).data.toList=le4 s.data.toList.length:=by unfold head4; rw [four_le4,size_len]
 have h2:∀ t:ByteArray,(four (sumI t)).data.toList=le4 (sum32 t.data.toList):=fun t=>by unfold sumI; exact four_le4 _
 simp only [← frameOf_eq,appl,h2,h1,frameL]
def oneL (l:List UInt8):Option (List UInt8) :=
 if l.length<12 then none
 else if sum32 (l.take 4)≠num4 (l.drop 4) then none
 else if 65536<num4 l∨l.length - 12<num4 l then none
 else if sum32 ((l.drop 8).take (num4 l))≠num4 (l.drop (8+num4 l)) then none
 else some ((l.drop 8).take (num4 l))
def oneR (l:List UInt8):Option (List UInt8) :=
 if l.length<12 then none
 else if 65536<num4 l∨l.length<num4 l+12 then none
 else if frameL ((l.drop 8).take (num4 l))=l.take (num4 l+12) then some ((l.drop 8).take (num4 l)) else none
theorem split4 (l:List UInt8) (n:Nat) (_h:n+12≤l.length):l.take (n+12)=l.take 4++(l.drop 4).take 4++(l.drop 8).take n++(l.drop (8+n)).take 4:=by
 have e1:n+12=4+(4+(n+4)):=by omega
 rw [e1,List.take_add,List.take_add,List.take_add,List.drop_drop,List.drop_drop]
 simp only [List.append_assoc]
theorem app4 {a b c d a' b' c' d':List UInt8}(ha:a.length=a'.length) (hb:b.length=b'.length) (hc:c.length=c'.length):a++b++c++d=a'++b'++c'++d'↔a=a'∧b=b'∧c=c'∧d=d':=by
 simp only [List.append_assoc]
 constructor
 ·intro h
  obtain⟨h1,h⟩:=List.append_inj h ha
  obtain⟨h2,h⟩:=List.append_inj h hb
  obtain⟨h3,h4⟩:=List.append_inj h hc
  exact⟨h1,h2,h3,h4⟩
 ·rintro⟨rfl,rfl,rfl,rfl⟩; rfl
theorem oneR_eq (l:List UInt8):oneR l=oneL l:=by
 unfold oneR oneL
 by_cases h12:l.length<12
 ·rw [if_pos h12,if_pos h12]
 ·rw [if_neg h12,if_neg h12]
  by_cases hn:65536<num4 l∨l.length<num4 l+12
  ·rw [if_pos hn]
   by_cases hs:sum32 (l.take 4)≠num4 (l.drop 4)
   ·rw [if_pos hs]
   ·rw [if_neg hs,if_pos (by omega)]
  ·rw [if_neg hn]
   have hb:((l.drop 8).take (num4 l)).length=num4 l:=by simp; omega
   have hhead:le4 (num4 l)=l.take 4:=by rw [← num4_take,le4_num4 _ (by simp; omega)]
   have hiff:frameL ((l.drop 8).take (num4 l))=l.take (num4 l+12)↔sum32 (l.take 4)=num4 (l.drop 4)∧sum32 ((l.drop 8).take (num4 l))=num4 (l.drop (8+num4 l)):=by
    rw [split4 l (num4 l) (by omega)]
    unfold frameL
    rw [hb,hhead,app4 rfl (by rw [le4_length]; simp; omega) rfl]
    have g:∀ (x:Nat) (m:List UInt8),x<4294967296→4≤m.length→(le4 x=m.take 4↔x=num4 m):=by
     intro x m hx hm
     constructor
     ·intro h
      have:=num4_le4 x hx []
      rw [List.append_nil,h,num4_take] at this; exact this.symm
     ·intro h; rw [h,← num4_take,le4_num4 _ (by simp; omega)]
    rw [g _ _ (sum32_lt _) (by simp; omega),g _ _ (sum32_lt _) (by simp; omega)]
    simp
   by_cases hs:sum32 (l.take 4)≠num4 (l.drop 4)
   ·rw [if_pos hs,if_neg (fun h=>hs (hiff.1 h).1)]
   ·rw [if_neg hs,if_neg (show ¬ (65536<num4 l∨l.length - 12<num4 l) by omega)]
    by_cases ht:sum32 ((l.drop 8).take (num4 l))≠num4 (l.drop (8+num4 l))
    ·rw [if_pos ht,if_neg (fun h=>ht (hiff.1 h).2)]
    ·rw [if_neg ht,if_pos (hiff.2 ⟨by simpa using hs,by simpa using ht⟩)]
theorem oneL_some {l b:List UInt8}(h:oneL l=some b):b.length≤65536∧b.length+12≤l.length∧b=(l.drop 8).take b.length∧b.length=num4 l∧frameL b=l.take (b.length+12):=by
 have h2:=h
 rw [← oneR_eq] at h2
 unfold oneR at h2
 by_cases h12:l.length<12
 ·rw [if_pos h12] at h2; cases h2
 ·rw [if_neg h12] at h2
  by_cases hn:65536<num4 l∨l.length<num4 l+12
  ·rw [if_pos hn] at h2; cases h2
  ·rw [if_neg hn] at h2
   by_cases hf:frameL ((l.drop 8).take (num4 l))=l.take (num4 l+12)
   ·rw [if_pos hf] at h2
    cases h2
    have hb:((l.drop 8).take (num4 l)).length=num4 l:=by simp; omega
    rw [hb]
    exact⟨by omega,by omega,rfl,rfl,hf⟩
   ·rw [if_neg hf] at h2; cases h2
theorem oneL_frame (b r:List UInt8) (hb:b.length≤65536):oneL (frameL b++r)=some b:=by
 rw [← oneR_eq]
 unfold oneR
 have hl:(frameL b++r).length=b.length+12+r.length:=by rw [List.length_append,frameL_length]
 have hn:num4 (frameL b++r)=b.length:=by
  unfold frameL
  simp only [List.append_assoc]
  exact num4_le4 _ (by omega) _
 have hd:((frameL b++r).drop 8).take b.length=b:=by
  unfold frameL
  have e:le4 b.length++le4 (sum32 (le4 b.length))++b++le4 (sum32 b)++r=(le4 b.length++le4 (sum32 (le4 b.length)))++(b++(le4 (sum32 b)++r)):=by simp only [List.append_assoc]
  rw [e,List.drop_left' (by simp [le4_length]),List.take_left]
 rw [if_neg (by omega),hn,if_neg (by omega),hd,if_pos (by rw [List.take_left' (frameL_length b)])]
inductive Told (l:List UInt8):List (List UInt8)→Nat→Prop where
 | start:Told l [] 0
 | step {r:List (List UInt8)}{k:Nat}{b:List UInt8}:Told l r k→oneL (l.drop k)=some b→Told l (r++[b]) (k+b.length+12)
theorem Told.le {l:List UInt8}{r:List (List UInt8)}{k:Nat}(h:Told l r k):k≤l.length:=by
 cases h with
 | start=>omega
 | step hr hb =>
   obtain⟨_,h2,_⟩:=oneL_some hb
   simp at h2; omega
theorem Told.count {l:List UInt8}{r:List (List UInt8)}{k:Nat}(h:Told l r k):12*r.length≤k:=by
 induction h with
 | start=>simp
 | step hr hb ih=>simp; omega
def bods:Nat→List UInt8→List (List UInt8)
 | 0,_=>[]
 | f+1,l=>match oneL l with
   | none=>[]
   | some b=>b :: bods f (l.drop (b.length+12))
def bodies (l:List UInt8):List (List UInt8):=bods l.length l
theorem bods_enough:∀ f g (l:List UInt8),l.length≤f→l.length≤g→bods f l=bods g l:=by
 intro f
 induction f with
 | zero =>
   intro g l h _
   have hl:l=[]:=List.eq_nil_of_length_eq_zero (by omega)
   subst hl
   cases g with
   | zero=>rfl
   | succ g=>rfl
 | succ f ih =>
   intro g l h1 h2
   cases g with
   | zero =>
     have hl:l=[]:=List.eq_nil_of_length_eq_zero (by omega)
     subst hl; rfl
   | succ g =>
     simp only [bods]
     cases hb:oneL l with
     | none=>rfl
     | some b =>
       obtain⟨_,h4,_⟩:=oneL_some hb
       simp only
       rw [ih g _ (by simp; omega) (by simp; omega)]
theorem bodies_none (l:List UInt8) (h:oneL l=none):bodies l=[]:=by
 unfold bodies
 cases l with
 | nil=>rfl
 | cons x l=>simp only [List.length_cons,bods,h]
theorem bodies_some (l b:List UInt8) (h:oneL l=some b):bodies l=b :: bodies (l.drop (b.length+12)):=by
 obtain⟨_,h4,_⟩:=oneL_some h
 unfold bodies
 obtain⟨n,hn⟩:∃ n,l.length=n+1:=⟨l.length - 1,by omega⟩
 rw [hn]
 simp only [bods,h]
 rw [bods_enough n _ _ (by simp; omega) (Nat.le_refl _)]
def taken (r:List (List UInt8)):Nat:=(r.map fun b=>b.length+12).sum
theorem taken_snoc (r:List (List UInt8)) (b:List UInt8):taken (r++[b])=taken r+b.length+12:=by simp [taken]; omega
theorem Told.bodies {l:List UInt8}{r:List (List UInt8)}{k:Nat}(h:Told l r k):Go.Proofs.YtlpgbmaoenncjaaGreatDoor.bodies l=r++Go.Proofs.YtlpgbmaoenncjaaGreatDoor.bodies (l.drop k):=by
 induction h with
 | start=>simp
 | step hr hb ih =>
   rename_i r k b
   rw [ih,bodies_some _ _ hb,List.drop_drop]
   simp [Nat.add_assoc]
theorem Told.taken {l:List UInt8}{r:List (List UInt8)}{k:Nat}(h:Told l r k):k=Go.Proofs.YtlpgbmaoenncjaaGreatDoor.taken r:=by
 induction h with
 | start=>rfl
 | step hr hb ih=>rw [taken_snoc,← ih]
theorem Told.done {l:List UInt8}{r:List (List UInt8)}{k:Nat}(h:Told l r k) (he:oneL (l.drop k)=none):Go.Proofs.YtlpgbmaoenncjaaGreatDoor.bodies l=r∧Go.Proofs.YtlpgbmaoenncjaaGreatDoor.taken (Go.Proofs.YtlpgbmaoenncjaaGreatDoor.bodies l)=k:=by
 have h1:Go.Proofs.YtlpgbmaoenncjaaGreatDoor.bodies l=r:=by rw [h.bodies,bodies_none _ he,List.append_nil]
 rw [h1]
 exact⟨rfl,h.taken.symm⟩
theorem Told.frames {l:List UInt8}{r:List (List UInt8)}{k:Nat}(h:Told l r k):(r.map frameL).flatten=l.take k:=by
 induction h with
 | start=>simp
 | step hr hb ih =>
   rename_i r k b
   obtain⟨_,_,_,_,h5⟩:=oneL_some hb
   rw [List.map_append,List.flatten_append,ih,Nat.add_assoc,List.take_add]
   simp [h5]
theorem taken_frames (bs:List (List UInt8)):taken bs=((bs.map frameL).flatten).length:=by
 induction bs with
 | nil=>rfl
 | cons b bs ih=>simp only [taken,List.map_cons,List.sum_cons,List.flatten_cons,List.length_append,frameL_length]; unfold taken at ih; rw [← ih]
end Go.Proofs.YtlpgbmaoenncjaaGreatDoor
namespace Go.Proofs.YtlpgbmaoenncjaaGreatDoor
open Go.RowKit
set_option linter.unusedVariables false
theorem bits_or_u32_nat (a b:Nat) (ha:a<4294967296) (hb:b<4294967296):bits .or .u32 (a:Int) (b:Int)=((a ||| b:Nat):Int):=by
 have hx:a ||| b<2 ^ 32:=Nat.or_lt_two_pow (by omega) (by omega)
 show IntKind.u32.wrap ((BitVec.ofInt 32 (a:Int) ||| BitVec.ofInt 32 (b:Int)).toNat:Int)=_
 rw [BitVec.toNat_or,ofInt32_nat a ha,ofInt32_nat b hb,IntKind.wrap_u32]
 omega
theorem or_join (a b i:Nat) (ha:a<2 ^ i) (hs:a+2 ^ i*b<4294967296):bits .or .u32 (a:Int) ((2 ^ i*b:Nat):Int)=((a+2 ^ i*b:Nat):Int):=by
 rw [bits_or_u32_nat _ _ (by omega) (by omega),Nat.or_comm,← Nat.two_pow_add_eq_or_of_lt ha,Nat.add_comm]
theorem num4_at (s:ByteArray) (h0:0<s.size) (h1:1<s.size) (h2:2<s.size) (h3:3<s.size) :
 num4 s.data.toList=s[0].toNat+256*s[1].toNat+65536*s[2].toNat+16777216*s[3].toNat:=by
 have g:∀ i (h:i<s.size),(s.data.toList[i]?.getD 0)=s[i]:=fun i h=>by
  rw [List.getElem?_eq_getElem (by simpa using h)]; rfl
 unfold num4
 rw [g 0 h0,g 1 h1,g 2 h2,g 3 h3]
theorem num4_bits (a b c d:Nat) (ha:a<256) (hb:b<256) (hc:c<256) (hd:d<256) :
 bits .or .u32 (bits .or .u32 (bits .or .u32 (a:Int) ((b:Int)*256)) ((c:Int)*65536)) ((d:Int)*16777216)=((a+256*b+65536*c+16777216*d:Nat):Int):=by
 have e1:((b:Int)*256)=((2 ^ 8*b:Nat):Int):=by omega
 have e2:((c:Int)*65536)=((2 ^ 16*c:Nat):Int):=by omega
 have e3:((d:Int)*16777216)=((2 ^ 24*d:Nat):Int):=by omega
 rw [e1,e2,e3,or_join a b 8 (by omega) (by omega),or_join _ c 16 (by omega) (by omega),or_join _ d 24 (by omega) (by omega)]
set_option maxHeartbeats 1000000 in
theorem frNumber_any (s:ByteArray) (w:World) (h:4≤s.size) (v:Int) (hv:Hid (v=(num4 s.data.toList:Int))) :
 Calls Tryz.prog 167 #[.string s] w fun e w'=>e = .returned (.int .u32 v)∧∃ n,w'=w.drewN n:=by
 have i0:(0:Int)<(s.size:Int):=by omega
 have i1:(1:Int)<(s.size:Int):=by omega
 have i2:(2:Int)<(s.size:Int):=by omega
 have i3:(3:Int)<(s.size:Int):=by omega
 have n0:0<s.size:=by omega
 have n1:1<s.size:=by omega
 have n2:2<s.size:=by omega
 have n3:3<s.size:=by omega
 have b0:=byte_lt s[0]
 have b1:=byte_lt s[1]
 have b2:=byte_lt s[2]
 have b3:=byte_lt s[3]
 have hb:=Lib.hid (num4_bits _ _ _ _ b0 b1 b2 b3)
 have hn:=Lib.hid (num4_at s n0 n1 n2 n3)
 go_enter Tryz.func167,Tryz.ntmps167
 go_wp2_with fail
 go_quiet (fail)
 go_wp2
 go_ret
 exact⟨ret_int (by rw [hv.out,hn.out,hb.out]),_,rfl⟩
end Go.Proofs.YtlpgbmaoenncjaaGreatDoor
namespace Go.Proofs.YtlpgbmaoenncjaaGreatDoor
open Go.RowKit
set_option linter.unusedVariables false
def ScanP (w:World) (l:List UInt8) (e:Ending) (w':World):Prop :=
 ∃ a n c,e = .returned (.tuple #[.slice a n c,.int .i64 (taken (bodies l):Int)])∧SlAt w' a n (strs ((bodies l).map strOf))∧Below w.heap.size w w'∧(∀ x,a=some x→w.heap.size≤x.block)∧n≤c
end Go.Proofs.YtlpgbmaoenncjaaGreatDoor
namespace Go.Proofs.YtlpgbmaoenncjaaGreatDoor
open Go.RowKit Go.Shelf
attribute [local go_sem] Oper.semAt_some
set_option linter.unusedVariables false
set_option maxHeartbeats 400000 in
theorem frames_any (s:ByteArray) (w:World) :
 Calls Tryz.prog 114 #[.string s] w fun e w'=>e = .returned (.func (.func 166) #[] #[.pointer (some ⟨w.heap.size,0,none⟩)])∧w'=w.alloc (.cells #[.string s] 9):=by
 go_enter Tryz.func114,Tryz.ntmps114
 go_wp2
 go_ret
 exact⟨rfl,rfl⟩
def encF (x:Nat × ByteArray):Array Value:=#[.int .i64 x.1,.string x.2]
def lastAt (pre:List (Nat × ByteArray)):Nat:=(pre.getLast?.map (·.1)).getD 0
theorem lastAt_snoc (pre:List (Nat × ByteArray)) (x:Nat × ByteArray):lastAt (pre++[x])=x.1:=by simp [lastAt]
def TP (l:List UInt8) (pre:List (Nat × ByteArray)):Prop:=Told l (pre.map fun x=>x.2.data.toList) (lastAt pre)
theorem TP.start (l:List UInt8):TP l []:=Told.start
theorem TP.step {l:List UInt8}{pre:List (Nat × ByteArray)}(h:TP l pre) (t:ByteArray) (ho:oneL (l.drop (lastAt pre))=some t.data.toList):TP l (pre++[(lastAt pre+t.size+12,t)]):=by
 unfold TP
 rw [lastAt_snoc,List.map_append,size_len]
 exact Told.step h ho
def KB (Bs:Nat) (s:ByteArray) (A B:World):Prop:=Boxed A Bs 9 (.string s)→Boxed B Bs 9 (.string s)
set_option maxRecDepth 100000 in
set_option maxHeartbeats 4000000 in
theorem frames1_in (n:Nat) (hn:1≤n) (l Bs:Nat) (s:ByteArray) (hs:s.size≤4000000) (J Jx:List (Nat × ByteArray)→World→Prop)
 (hY:∀ pre x W,J pre W→pre.length<s.size+1→YieldAt Fence.wide (n - 1) Tryz.prog l (encF x) W fun e W' =>
   (e = .returned (.bool true)∧J (pre++[x]) W'∧KB Bs s W W')∨(e = .returned (.bool false)∧Jx (pre++[x]) W'))
 (W:World) (hBs:Boxed W Bs 9 (.string s)) (h0:J [] W)
 (hdr:∀ pre W m,J pre W→J pre (W.drewN m)) :
 CallsIn Fence.wide n Tryz.prog 166 #[.func (.yield l) #[] #[],.pointer (some ⟨Bs,0,none⟩)] W fun e W'=>(∃ v,e = .returned v) ∧
  ((∃ ys,(TP s.data.toList ys∧oneL (s.data.toList.drop (lastAt ys))=none)∧J ys W')∨(∃ pre,True∧Jx pre W')):=by
 refine callsIn_of_wp Tryz.func166 rfl trivial ?_ rfl
 simp only [Tryz.ntmps166,List.size_toArray,List.length_cons,List.length_nil,Nat.reduceAdd,Nat.reduceSub,Array.replicate_succ,Array.replicate_zero,List.push_toArray,List.append_toArray,List.nil_append,List.cons_append]
 refine wpIn_wide.2 ?_
 refine wp_scope_straight ?_
 refine (wpIn_wide (n:=n)).1 ?_
 refine wpIn_seq ?_
 gi_wp2_with fail
 refine wpIn_label ?_
 gi_wp2_with fail
 gi_loopg [3] s.size (fun gk i wr=>∃ (pre:List (Nat × ByteArray)),gk=s.size - lastAt pre∧i = .int .i64 (lastAt pre:Int)∧lastAt pre≤s.size∧Hid (Boxed wr Bs 9 (.string s))∧Hid (TP s.data.toList pre)∧Hid (J pre wr))
 case atStart=>exact⟨[],rfl,rfl,Nat.zero_le _,Lib.hid hBs,TP.start _,h0⟩
 case round =>
  obtain⟨pre,rfl,rfl,hk,hB,hT,hJ⟩:=hrel
  have hc:=hB.out.cell
  have HS:=Lib.hid hs
  have HY:=Lib.hid hY
  have HDR:=Lib.hid hdr
  clear hY hdr h0 hBs
  have hko:Hid (oneL (s.data.toList.drop (lastAt pre))=oneL (s.extract (lastAt pre) s.size).data.toList):=Lib.hid (by rw [Lib.extract_to_end])
  generalize hkk:lastAt pre=k at *
  have HK:=Lib.hid hkk
  clear hkk
  obtain⟨r,hr⟩:∃ r,r=s.extract k s.size:=⟨_,rfl⟩
  have hrs:r.size=s.size - k:=by rw [hr]; simp
  have HR:=Lib.hid hr
  have HRS:=Lib.hid hrs
  have hend:∀ (e:Ending) (W':World),oneL r.data.toList=none→(∃ v,e = .returned v)→J pre W'→(∃ v,e = .returned v) ∧
   ((∃ ys,(TP s.data.toList ys∧oneL (s.data.toList.drop (lastAt ys))=none)∧J ys W')∨(∃ pre,True∧Jx pre W')):=by
   intro e W' hn he hj
   exact⟨he,.inl ⟨pre,⟨hT.out,by rw [HK.out,hko.out,← HR.out]; exact hn⟩,hj⟩⟩
  have hend2:∀ (e:Ending) (W':World),oneL r.data.toList=none→(∃ v,e = .returned v)→J pre W'→(∃ v,e = .returned v) ∧
   ((∃ ys,(TP s.data.toList ys∧oneL (s.data.toList.drop (lastAt ys))=none)∧J ys W')∨(∃ pre,Jx pre W')):=by
   intro e W' hn he hj
   exact⟨he,.inl ⟨pre,⟨hT.out,by rw [HK.out,hko.out,← HR.out]; exact hn⟩,hj⟩⟩
  have HEND2:=Lib.hid hend2
  clear hend2
  have HEND:=Lib.hid hend
  clear hend hr hrs
  have hf1:Fence.wide.fn 167:=trivial
  have hf2:Fence.wide.fn 89:=trivial
  by_cases h12:r.size<12
  ·have h12i:(r.size:Int)<12:=by omega
   have ho:Hid (oneL r.data.toList=none):=Lib.hid (by unfold oneL; rw [if_pos (by rw [← size_len]; exact h12)])
   gi_wp2_with fail
   rw [← HR.out]
   refine wpIn_wide.2 ?_
   go_quiet (fail)
   gi_wp2_with fail
   try simp only [Exit.noGoto]
   go_end0
   first | exact HEND.out _ _ ho.out ⟨_,rfl⟩ (HDR.out _ _ _ hJ.out) | exact HEND2.out _ _ ho.out ⟨_,rfl⟩ (HDR.out _ _ _ hJ.out)
  ·have a1:(r.extract 0 4).size≤maxLen:=by unfold maxLen; simp; omega
   have a2:4≤(r.extract 4 r.size).size:=by simp; omega
   have a3:4≤r.size:=by omega
   have g12:¬ (r.size:Int)<12:=by omega
   have g4:(4:Int)≤(r.size:Int):=by omega
   have e12:¬ r.data.toList.length<12:=by rw [← size_len]; exact h12
   have t1:sumI (r.extract 0 4)=(sum32 (r.data.toList.take 4):Int):=by unfold sumI; rw [Lib.extract_data]; rfl
   have t2:(r.extract 4 r.size).data.toList=r.data.toList.drop 4:=Lib.extract_to_end r 4
   obtain⟨c1,hc1⟩:∃ c,c=sumI (r.extract 0 4):=⟨_,rfl⟩
   obtain⟨d1,hd1⟩:∃ c,c=(num4 (r.extract 4 r.size).data.toList:Int):=⟨_,rfl⟩
   have HS1:=Lib.hid (fun (W:World)=>(frSumI_any (r.extract 0 4) W a1).mono (fun e w' (h:e = .returned (.int .u32 (sumI (r.extract 0 4)))∧W=w')=>(⟨by rw [hc1]; exact h.1,h.2.symm⟩:e = .returned (.int .u32 c1)∧w'=W)))
   have HN1:=Lib.hid (fun (W:World)=>frNumber_any (r.extract 4 r.size) W a2 d1 hd1)
   have HN0:=Lib.hid (fun (W:World) (v:Int) (hv:Hid (v=(num4 r.data.toList:Int)))=>frNumber_any r W a3 v hv)
   have hcd:c1=d1↔sum32 (r.data.toList.take 4)=num4 (r.data.toList.drop 4):=by rw [hc1,hd1,t1,t2]; omega
   clear t1 t2 a1 a2 a3 hc1 hd1
   by_cases hcc:sum32 (r.data.toList.take 4)=num4 (r.data.toList.drop 4)
   ·have hv:=hcd.2 hcc
    subst hv
    obtain⟨N,hN⟩:∃ N,N=num4 r.data.toList:=⟨_,rfl⟩
    have hNlt:N<4294967296:=by rw [hN]; exact num4_lt _
    have HN0':=Lib.hid (fun (W:World)=>HN0.out W (N:Int) (by rw [hN]; rfl))
    have HNN:=Lib.hid hN
    have hr200:r.size≤4000000:=by have:=HRS.out; omega
    have hrI:(r.size:Int)≤4000000:=by omega
    clear HN0 hcd
    clear hN
    have q1:(c1==c1)=true:=by simp
    have q2:(c1 != c1)=false:=by simp
    gi_wp2_with fail
    rw [← HR.out]
    refine wpIn_wide.2 ?_
    go_quiet ((first | (go_at_call 89; exact Calls.quiet_of_same (HS1.out _)) | (go_at_call 167; exact Calls.quiet_of (HN1.out _))))
    gi_wp2_with (gi_at_call 167; refine (callsIn_wide.2 (HN0'.out _)).mono ?_; rintro e w1 ⟨rfl,nn,rfl⟩)
    obtain⟨W1,hW1⟩:∃ W1,W1=wr.drewN (nq+nn):=⟨_,rfl⟩
    rw [← hW1]
    have HJ1:Hid (J pre W1):=Lib.hid (by rw [hW1]; exact HDR.out _ _ _ hJ.out)
    have hc1:W1.cell? ⟨Bs,0,none⟩=some (.string s):=by rw [hW1]; exact hc
    have HB1:Hid (Boxed W1 Bs 9 (.string s)):=Lib.hid (by rw [hW1]; exact hB.out)
    clear hW1 hc hJ
    by_cases n1:65536<N
    ·have m1:(65536:Int)<(N:Int):=by omega
     have ho:Hid (oneL r.data.toList=none):=Lib.hid (by unfold oneL; rw [if_neg e12,if_neg (by simpa using hcc),if_pos (.inl (by rw [← HNN.out]; exact n1))])
     clear e12 hcc
     refine wpIn_wide.2 ?_
     go_quiet (fail)
     gi_wp2_with fail
     try simp only [Exit.noGoto]
     go_end0
     first | exact HEND.out _ _ ho.out ⟨_,rfl⟩ (HDR.out _ _ _ HJ1.out) | exact HEND2.out _ _ ho.out ⟨_,rfl⟩ (HDR.out _ _ _ HJ1.out)
    ·have m1:¬ (65536:Int)<(N:Int):=by omega
     have m1':(N:Int)≤65536:=by omega
     by_cases n2:r.size - 12<N
     ·have m2:(r.size:Int) - 12<(N:Int):=by omega
      have ho:Hid (oneL r.data.toList=none):=Lib.hid (by unfold oneL; rw [if_neg e12,if_neg (by simpa using hcc),if_pos (.inr (by rw [← HNN.out,← size_len]; exact n2))])
      clear e12 hcc
      refine wpIn_wide.2 ?_
      go_quiet (fail)
      gi_wp2_with fail
      try simp only [Exit.noGoto]
      go_end0
      first | exact HEND.out _ _ ho.out ⟨_,rfl⟩ (HDR.out _ _ _ HJ1.out) | exact HEND2.out _ _ ho.out ⟨_,rfl⟩ (HDR.out _ _ _ HJ1.out)
     ·have m2:¬ (r.size:Int) - 12<(N:Int):=by omega
      have hNle:N+12≤r.size:=by omega
      have hNleI:(N:Int)+12≤(r.size:Int):=by omega
      have hA1:(0:Int)≤(N:Int):=by omega
      obtain⟨M,hM⟩:∃ M,M=8+N:=⟨_,rfl⟩
      have hMI:(8:Int)+(N:Int)=(M:Int):=by omega
      have hMw:IntKind.i64.wrap (M:Int)=(M:Int):=by rw [IntWalk.i64_in _ (by omega)]
      have hMle:(M:Int)≤(r.size:Int):=by omega
      have hM8:(8:Int)≤(M:Int):=by omega
      have HM:=Lib.hid hM
      have b1:(r.extract 8 M).size≤maxLen:=by unfold maxLen; simp; omega
      have b2:4≤(r.extract M r.size).size:=by simp; omega
      have t1:sumI (r.extract 8 M)=(sum32 ((r.data.toList.drop 8).take N):Int):=by
       unfold sumI; rw [Lib.extract_data]; rw [hM]; simp
      have t2:(r.extract M r.size).data.toList=r.data.toList.drop (8+N):=by rw [Lib.extract_to_end,hM]
      have t3:(r.extract 8 M).data.toList=(r.data.toList.drop 8).take N:=by rw [Lib.extract_data,hM]; simp
      clear hM HS1 HN1 HN0'
      obtain⟨c2,hc2⟩:∃ c,c=sumI (r.extract 8 M):=⟨_,rfl⟩
      obtain⟨d2,hd2⟩:∃ c,c=(num4 (r.extract M r.size).data.toList:Int):=⟨_,rfl⟩
      have HS2:=Lib.hid (fun (W:World)=>(frSumI_any (r.extract 8 M) W b1).mono (fun e w' (h:e = .returned (.int .u32 (sumI (r.extract 8 M)))∧W=w')=>(⟨by rw [hc2]; exact h.1,h.2.symm⟩:e = .returned (.int .u32 c2)∧w'=W)))
      have HN2:=Lib.hid (fun (W:World)=>frNumber_any (r.extract M r.size) W b2 d2 hd2)
      have hcd2:c2=d2↔sum32 ((r.data.toList.drop 8).take N)=num4 (r.data.toList.drop (8+N)):=by rw [hc2,hd2,t1,t2]; omega
      have HT3:=Lib.hid t3
      clear t1 t2 t3 b1 b2 hc2 hd2
      by_cases hcc2:sum32 ((r.data.toList.drop 8).take N)=num4 (r.data.toList.drop (8+N))
      ·have hv:=hcd2.2 hcc2
       subst hv
       have p1:(c2==c2)=true:=by simp
       have p2:(c2 != c2)=false:=by simp
       have ho:oneL r.data.toList=some (r.extract 8 M).data.toList:=by
        unfold oneL
        rw [if_neg e12,if_neg (by simpa using hcc),if_neg (by rw [← HNN.out,← size_len]; omega),if_neg (by rw [← HNN.out]; simpa using hcc2),HT3.out,HNN.out]
       have hcnt:pre.length<s.size+1:=by have:=(Told.count hT.out); rw [HK.out] at this; simp at this; omega
       have hst:TP s.data.toList (pre++[(k+N+12,r.extract 8 M)]):=by
        have e:(r.extract 8 M).size=N:=by simp; have:=HM.out; omega
        have:=TP.step hT.out (r.extract 8 M) (by rw [HK.out,hko.out,← HR.out]; exact ho)
        rw [HK.out,e] at this
        exact this
       have HST:=Lib.hid hst
       have hkN:k+N+12≤s.size:=by have:=HRS.out; omega
       obtain⟨T,hT2⟩:∃ T,T=k+(N+12):=⟨_,rfl⟩
       obtain⟨V,hV⟩:∃ V,V=N+12:=⟨_,rfl⟩
       have v1:(N:Int)+12=(V:Int):=by omega
       have v2:IntKind.i64.wrap (V:Int)=(V:Int):=by rw [IntWalk.i64_in _ (by omega)]
       have v3:(k:Int)+(V:Int)=(T:Int):=by omega
       have v4:IntKind.i64.wrap (T:Int)=(T:Int):=by rw [IntWalk.i64_in _ (by omega)]
       have HTT:=Lib.hid hT2
       have HVV:=Lib.hid hV
       clear hV hT2 hst ho e12 hcc hcc2 hcd2
       refine wpIn_wide.2 ?_
       go_quiet ((first | (go_at_call 89; exact Calls.quiet_of_same (HS2.out _)) | (go_at_call 167; exact Calls.quiet_of (HN2.out _))))
       obtain⟨W2,hW2⟩:∃ W2,W2=W1.drewN nq:=⟨_,rfl⟩
       rw [← hW2]
       have HJ2:J pre W2:=by rw [hW2]; exact HDR.out _ _ _ HJ1.out
       have HB2:Hid (Boxed W2 Bs 9 (.string s)):=Lib.hid (by rw [hW2]; exact HB1.out)
       have hc2:W2.cell? ⟨Bs,0,none⟩=some (.string s):=by rw [hW2]; exact hc1
       obtain⟨fn,tmps,assign,body,hy0,hR⟩:=HY.out pre (T,r.extract 8 M) W2 HJ2 hcnt
       have hy:(Instr.yield l #[.int .i64 (T:Int),.string (r.extract 8 M)]).run Tryz.prog W2 = .ok (.round l fn tmps assign body) W2:=hy0
       clear hW2 hc1 hy0
       have eT:T=k+N+12:=by have:=HTT.out; omega
       have HST2:Hid (TP s.data.toList (pre++[(T,r.extract 8 M)])):=Lib.hid (by rw [eT]; exact HST.out)
       have HEL:Hid (lastAt (pre++[(T,r.extract 8 M)])=T):=Lib.hid (lastAt_snoc _ _)
       have hTle:T≤s.size:=by omega
       have hkT:k<T:=by omega
       clear HST eT hkN
       gi_wp2_with fail
       refine hR.mono ?_
       rintro e W3 (⟨rfl,hJ3,hk3⟩ | ⟨rfl,hJx3⟩)
       ·have HB3:Hid (Boxed W3 Bs 9 (.string s)):=Lib.hid (hk3 HB2.out)
        have hc3:W3.cell? ⟨Bs,0,none⟩=some (.string s):=HB3.out.cell
        clear hk3
        have HJ3:=Lib.hid hJ3
        clear hJ3 hy hR
        gi_wp2_with fail
        gi_roundg (s.size - T)
        case rel=>exact⟨pre++[(T,r.extract 8 M)],by rw [HEL.out],by rw [HEL.out],by rw [HEL.out]; exact hTle,HB3,HST2,HJ3⟩
        case measure=>omega
       ·have HX:=Lib.hid hJx3
        clear hJx3 hy hR
        gi_wp2_with fail
        simp only [Exit.noGoto]
        refine bodyPost_ret (results_none rfl _ _ _) rfl ?_
        exact⟨⟨_,rfl⟩,.inr ⟨_,trivial,HX.out⟩⟩
      ·have hv:¬ c2=d2:=fun e=>hcc2 (hcd2.1 e)
       have p1:(c2==d2)=false:=beq_eq_false_iff_ne.2 hv
       have p2:(c2 != d2)=true:=bne_iff_ne.2 hv
       have ho:Hid (oneL r.data.toList=none):=Lib.hid (by
        unfold oneL
        rw [if_neg e12,if_neg (by simpa using hcc),if_neg (by rw [← HNN.out,← size_len]; omega),if_pos (by rw [← HNN.out]; exact hcc2)])
       clear hcc2 hcd2 e12 hcc
       refine wpIn_wide.2 ?_
       go_quiet ((first | (go_at_call 89; exact Calls.quiet_of_same (HS2.out _)) | (go_at_call 167; exact Calls.quiet_of (HN2.out _))))
       gi_wp2_with fail
       try simp only [Exit.noGoto]
       go_end0
       first | exact HEND.out _ _ ho.out ⟨_,rfl⟩ (HDR.out _ _ _ HJ1.out) | exact HEND2.out _ _ ho.out ⟨_,rfl⟩ (HDR.out _ _ _ HJ1.out)
   ·have hv:¬ c1=d1:=fun e=>hcc (hcd.1 e)
    have q1:(c1==d1)=false:=beq_eq_false_iff_ne.2 hv
    have q2:(c1 != d1)=true:=bne_iff_ne.2 hv
    have ho:Hid (oneL r.data.toList=none):=Lib.hid (by unfold oneL; rw [if_neg e12,if_pos hcc])
    clear hcc hcd e12
    gi_wp2_with fail
    rw [← HR.out]
    refine wpIn_wide.2 ?_
    go_quiet ((first | (go_at_call 89; exact Calls.quiet_of_same (HS1.out _)) | (go_at_call 167; exact Calls.quiet_of (HN1.out _))))
    gi_wp2_with fail
    try simp only [Exit.noGoto]
    go_end0
    first | exact HEND.out _ _ ho.out ⟨_,rfl⟩ (HDR.out _ _ _ hJ.out) | exact HEND2.out _ _ ho.out ⟨_,rfl⟩ (HDR.out _ _ _ hJ.out)
theorem kb_b (Bs:Nat) (s:ByteArray) (w:World) (W:World) (l:Nat) (o o':Obj) (_:w.heap.size≤l) (h:W.heap[l]? = some o) (hc:o.isCells=false) (_:o.isWalk=false):KB Bs s W (W.putObj l o'):=by
 intro hb
 refine hb.kept (grownBy_putObj' W l o') (fun e=>?_)
 cases e
 rw [show W.heap[Bs]? = _ from hb] at h
 cases h; cases hc
theorem frames_stops (n:Nat) (hn:1≤n) (Bs:Nat) (s:ByteArray) (hs:s.size≤4000000) (w:World) (hBs:Boxed w Bs 9 (.string s)) :
 SeqStopsK Fence.wide n Tryz.prog 166 #[.pointer (some ⟨Bs,0,none⟩)] encF (KB Bs s) (fun ys=>TP s.data.toList ys∧oneL (s.data.toList.drop (lastAt ys))=none) (fun _=>True) (s.size+1) w:=fun l J Jx W hW hJ _ hY h0 =>
 frames1_in n hn l Bs s hs J Jx hY W ((hW.block Bs hBs.lt).trans hBs) h0 (fun pre W' m hj=>hJ pre W' _ none hj ⟨rfl,rfl,rfl,Nat.le_refl _,fun _ _ _=>rfl⟩ (fun _ e=>by cases e))
end Go.Proofs.YtlpgbmaoenncjaaGreatDoor
namespace Go.Proofs.YtlpgbmaoenncjaaGreatDoor
open Go.RowKit Go.Shelf
attribute [local go_sem] Oper.semAt_some
set_option linter.unusedVariables false
theorem boxed_own {β:Type}(B:Nat) (t:TypeId) (f:β→Value):Own (fun s W=>Boxed W B t (f s)):=by
 rintro s X Y row hv hg hrow
 refine hv.kept hg (fun e'=>?_)
 obtain⟨o,ho,hc⟩:=hrow B e'.symm
 rw [show X.heap[B]? = _ from hv] at ho; cases ho; cases hc
def bodsOf (pre:List (Nat × ByteArray)):List Value:=strs (pre.map (·.2))
theorem bodsOf_snoc (pre:List (Nat × ByteArray)) (x:Nat × ByteArray):bodsOf (pre++[x])=bodsOf pre++[.string x.2]:=by simp [bodsOf,strs_snoc]
theorem row_ne {W:World}{base B:Nat}{e:TypeId}{size k:Nat}{v:Value}{xs:List Value}(h:W.ownsRow base e size v k xs) (hB:B<base):some B≠v.ownBlock:=by
 rcases h.2 with ⟨rfl,_⟩ | ⟨g,cap,cur,rfl,hb,_,_⟩
 ·simp [Value.ownBlock]
 ·intro e'
  obtain rfl:B=g:=by simpa [Value.ownBlock] using e'
  omega
theorem row_base {W:World}{base B:Nat}{e:TypeId}{size k:Nat}{v:Value}{xs:List Value}(h:W.ownsRow base e size v k xs) (hB:B≤base):W.ownsRow B e size v k xs :=
 ⟨h.1,h.2.imp id (fun ⟨g,cap,cur,e1,hb,r⟩=>⟨g,cap,cur,e1,Nat.le_trans hB hb,r⟩)⟩
set_option maxRecDepth 100000 in
set_option maxHeartbeats 4000000 in
theorem frScan_in (n:Nat) (hn:3≤n) (s:ByteArray) (w:World) (hs:s.size≤4000000) (l:List UInt8) (hl:Hid (l=s.data.toList)) :
 CallsIn Fence.wide n Tryz.prog 64 #[.string s] w (ScanP w l):=by
 have h1:1≤n:=by omega
 obtain⟨i0,hi,hz0,hz1,hz2⟩:=info_parts infoStr
 have hf1:Fence.wide.fn 114:=trivial
 refine callsIn_of_wp_marks Tryz.func64 rfl trivial ?_ rfl
 simp only [Tryz.ntmps64,List.size_toArray,List.length_cons,List.length_nil,Nat.reduceAdd,Nat.reduceSub,Array.replicate_succ,Array.replicate_zero,List.push_toArray,List.append_toArray,List.nil_append,List.cons_append]
 gi_wp2_with (gi_at_call 114; refine (callsIn_wide.2 (frames_any _ _)).mono ?_; rintro e w' ⟨rfl,rfl⟩)
 have bO:=Boxed.new w 86 (.slice none 0 0)
 have bE:=Boxed.new (w.alloc (.cells #[.slice none 0 0] 86)) 3 (.int .i64 0)
 have bS:=Boxed.new ((w.alloc (.cells #[.slice none 0 0] 86)).alloc (.cells #[.int .i64 0] 3)) 9 (.string s)
 rw [World.size_alloc] at bE bS
 rw [World.size_alloc] at bS
 obtain⟨W0,hW0⟩:∃ W0,W0=((w.alloc (.cells #[.slice none 0 0] 86)).alloc (.cells #[.int .i64 0] 3)).alloc (.cells #[.string s] 9):=⟨_,rfl⟩
 have hB0:Below w.heap.size w W0:=by rw [hW0]; exact (((Below.refl _ w).alloc (Nat.le_refl _) _).alloc (by simp) _).alloc (by simp; omega) _
 have hsz0:W0.heap.size=w.heap.size+3:=by rw [hW0]; simp
 have bO0:Boxed W0 w.heap.size 86 (.slice none 0 0):=by rw [hW0]; exact (bO.alloc _).alloc _
 have bE0:Boxed W0 (w.heap.size+1) 3 (.int .i64 0):=by rw [hW0]; exact bE.alloc _
 have bS0:Boxed W0 (w.heap.size+1+1) 9 (.string s):=by rw [hW0]; exact bS
 rw [← hW0]
 clear bO bE bS hW0
 refine wpIn_rangeFunc_ownG rfl h1 (gf:=166) (lb:=#[.pointer (some ⟨w.heap.size+1+1,0,none⟩)]) rfl trivial (enters_of Tryz.func166 (by kernel_rfl) rfl)
  (frames_stops (n - 1) (by omega) (w.heap.size+1+1) s hs W0 bS0) (fun h k hb=>k (h hb)) (fun W l o o' h h2 h3 h4=>kb_b _ _ W0 W l o o' h h2 h3 h4) (Below.refl _ _) (fun _=>rfl)
  (fun pre W=>(∃ v,Boxed W w.heap.size 86 v∧W.ownsRow (w.heap.size+3) 9 1 v pre.length (bodsOf pre)∧True)∧Boxed W (w.heap.size+1) 3 (.int .i64 (lastAt pre:Int))∧Boxed W (w.heap.size+1+1) 9 (.string s)∧Below w.heap.size w W)
  (fun _ _ _=>False)
  (OwnFrom.and (Own.from (holdsRow_own (w.heap.size+3) w.heap.size 86 9 1 (fun pre=>pre.length) (fun pre=>bodsOf pre) (fun pre v=>True)) _) (OwnFrom.and (Own.from (boxed_own _ _ _) _) <| OwnFrom.and (Own.from (boxed_own _ _ _) _) (ownFrom_below (Nat.le_refl _) (by omega))))
  (fun _ _ _ _ _ hs _ _=>hs)
  ⟨⟨_,bO0,World.ownsRow_nil _ _ _ _,trivial⟩,bE0,bS0,hB0⟩
  (fun x=>{ tmps:=#[.string s,undef,.slice none 0 0,.int .i64 0,.pointer (some ⟨w.heap.size,0,none⟩),.pointer (some ⟨w.heap.size+1,0,none⟩),.int .i64 x.1,.string x.2,.string s,.func (.func 166) #[] #[.pointer (some ⟨w.heap.size+1+1,0,none⟩)],.int .i64 x.1,.string x.2,undef,undef,undef,undef,undef,undef,undef],defers:=[] }) ?assign ?body ?done ?stop
 case assign =>
  intro l x W K hK
  simp only [encF]
  gi_wp2
  exact hK
 case body =>
  rintro l' pre x W ⟨⟨v,hv,hrow,-⟩,hE,hS,hB⟩ hlt
  have hc:=hv.cell
  have hec:=hE.cell
  have hsz:=hS.lt
  gi_wp2_with (gi_at_builtin; refine wpListIn_append_own _ rfl _ _ 86 rfl (w.heap.size+3) 9 i0 (.string ⟨#[]⟩) 1 16 Tryz.underlying86 hi hz0 hz1 hz2 rfl (by decide) _ _ _ rfl (hrow.alloc _) ⟨W.heap.size,0,none⟩ 1 1 [.string x.2] rfl rfl (cell_one_new _ _ _) (by simp [Value.oneCell']) (by unfold maxLen; omega) (by omega) (by simp; omega) ?_; intro v' w1 hown' hgrow _; have hE1:=(hE.alloc _).kept hgrow (row_ne hrow (by omega)); have hS1:=(hS.alloc _).kept hgrow (row_ne hrow (by omega)); have hc2:=hE1.cell; have hf2:=hE1.frozen; obtain⟨g',cap',rfl⟩:=ownsRow_succ hown'; obtain⟨hv1,hv2,hr2,hk2,hb2⟩:=hv.appended (by decide) (row_base hrow (Nat.le_add_right _ _)) hB.size (Nat.le_refl _) (row_base hown' (Nat.le_add_right _ _)) hgrow; have hc1:=hv1.cell; have hf1:=hv1.frozen)
  have hE2:=hE1.kept (grownBy_setCell' w1 w.heap.size (.slice (some ⟨g',0,none⟩) (pre.length+1) cap')) (by simp)
  have hS2:=hS1.kept (grownBy_setCell' w1 w.heap.size (.slice (some ⟨g',0,none⟩) (pre.length+1) cap')) (by simp; omega)
  have hr3:=hown'.kept (grownBy_setCell' w1 w.heap.size (.slice (some ⟨g',0,none⟩) (pre.length+1) cap')) (.inr (row_ne hown' (by omega)).symm)
  have gE:=grownBy_setCell' (w1.setCell ⟨w.heap.size,0,none⟩ (.slice (some ⟨g',0,none⟩) (pre.length+1) cap')) (w.heap.size+1) (.int .i64 (x.1:Int))
  refine⟨(hk2.trans (KeepsOthers.setCell _ _ _)).from _,fun _=>hS2.kept gE (by simp),⟨_,hv2.kept gE (by simp),?_,trivial⟩,?_,hS2.kept gE (by simp),?_⟩
  ·rw [bodsOf_snoc,List.length_append]
   exact hr3.kept gE (.inr (row_ne hr3 (by omega)).symm)
  ·rw [lastAt_snoc]; exact hE2.set _
  ·exact (hB.trans hb2).setCell (p:=⟨w.heap.size+1,0,none⟩) (by simp) _
 case done =>
  rintro D ys W hD ⟨hT,hnone⟩ ⟨⟨v,hv,hrow,-⟩,hE,hS,hB⟩ hK
  have hc:=hv.cell
  have hec:=hE.cell
  gi_wp2_with fail
  refine wpIn_wide.2 ?_
  go_quiet (fail)
  gi_wp2_with fail
  have hrow':(W.drewN nq).ownsRow w.heap.size 9 1 v ys.length (bodsOf ys):=row_base hrow (Nat.le_add_right _ _)
  have hK':(W.drewN nq).heap[D]? = some (.deferred (some [])):=hK
  refine⟨by simp,.inl ⟨_,_,rfl,run_takeDeferred hK',?_⟩⟩
  refine⟨_,results_tmp2 rfl _ _ _,?_⟩
  have hfin:=ownsRow_putObj hrow' (.deferred none) hK' rfl
  obtain⟨d1,d2⟩:=Told.done hT hnone
  have e1:(bodies l).map strOf=ys.map (·.2):=by
   rw [hl.out,d1,List.map_map]
   refine List.map_congr_left fun x _=>?_
   exact strOf_self _
  obtain⟨a,m,c,hva,hsl,hfr,hnc⟩:=own_slice hfin
  subst hva
  refine⟨a,m,c,?_,?_,?_,hfr,hnc⟩
  ·rw [hl.out,d2]; rfl
  ·rw [e1]; exact hsl
  ·exact (below_drewN hB nq).trans (belowK_b (w:=w) (Nat.le_refl _) (W.drewN nq) D _ _ (by omega) hK' rfl rfl)
 case stop =>
  rintro D c pre W _ _ h _
  exact h.elim
theorem frScan_any (s:ByteArray) (w:World) (hs:s.size≤4000000) (l:List UInt8) (hl:Hid (l=s.data.toList)) :
 Calls Tryz.prog 64 #[.string s] w (ScanP w l):=callsIn_wide.1 (frScan_in 3 (Nat.le_refl _) s w hs l hl)
end Go.Proofs.YtlpgbmaoenncjaaGreatDoor

/-
  The walks of wal.cut and of the reference's Pieces: a text, cut behind each 60000 bytes.
-/
import Derived.Test.YtlpgbmaoenncjaaGreatDoorWsOne
namespace Go.Proofs.YtlpgbmaoenncjaaGreatDoor
open Go.RowKit
set_option linter.unusedVariables false
set_option maxRecDepth 100000
def StrsP (w:World) (l:List ByteArray) (e:Ending) (w':World):Prop :=
 ∃ a n c,e = .returned (.slice a n c)∧SlAt w' a n (strs l)∧Below w.heap.size w w'∧(∀ x,a=some x→w.heap.size≤x.block)∧n≤c
def CutAt (s0:ByteArray) (l:List ByteArray) (s:ByteArray):Prop:=piecesB s0=l++piecesB s∧s.size≤s0.size∧l.length+s.size≤s0.size
theorem CutAt.start (s:ByteArray):CutAt s [] s:=by
 unfold CutAt
 refine And.intro ?_ (And.intro (Nat.le_refl _) ?_)
 ·rw [List.nil_append]
 ·rw [List.length_nil]; omega
theorem CutAt.step {s0 s:ByteArray}{l:List ByteArray}(h:CutAt s0 l s) (h6:60000<s.size):CutAt s0 (l++[s.extract 0 60000]) (s.extract 60000 s.size):=by
 refine⟨by rw [h.1,pieces_long h6,List.append_assoc,List.singleton_append],?_,?_⟩
 ·rw [ByteArray.size_extract]; have:=h.2.1; omega
 ·rw [ByteArray.size_extract,List.length_append]; have:=h.2.2; simp; omega
theorem CutAt.done {s0 s:ByteArray}{l:List ByteArray}(h:CutAt s0 l s) (h6:s.size≤60000):piecesB s0=l++[s]:=by rw [h.1,pieces_short h6]
set_option maxHeartbeats 1000000 in
theorem rpieces_any (s0:ByteArray) (w:World) (hs:s0.size≤4000000) :
 Calls Tryz.prog 122 #[.string s0] w (StrsP w (piecesB s0)):=by
 obtain⟨i0,hi,hz0,hz1,hz2⟩:=info_parts infoStr
 have HS:=Lib.hid hs
 clear hs
 go_enter Tryz.func122,Tryz.ntmps122
 go_wp2_with fail
 go_loopg [0,3] s0.size (fun gk v0 v3 wr=>∃ (l:List ByteArray) (s:ByteArray),gk=s.size∧v0 = .string s∧Hid (CutAt s0 l s)∧Hid (wr.ownsRow w.heap.size 9 1 v3 l.length (strs l))∧Hid (Below w.heap.size w wr))
 case atStart=>exact⟨[],s0,rfl,rfl,CutAt.start s0,World.ownsRow_made w #[] 0 (Nat.le_refl _) (Nat.zero_le _) rfl,(Below.refl _ _).alloc (Nat.le_refl _) _⟩
 case round =>
  obtain⟨l,s,rfl,rfl,hC,hO,hW⟩:=hrel
  have hsz:=hC.out.2.2
  have hs0:=HS.out
  have hown:=hO.out
  have hbz:=hW.out.size
  by_cases h6:60000<s.size
  ·have h6i:(60000:Int)<(s.size:Int):=by omega
   have h6j:(60000:Int)≤(s.size:Int):=by omega
   have HC2:=Lib.hid (hC.out.step h6)
   clear hC
   go_wp2_with (at_builtin; refine wpList_app1 wr rfl _ _ 86 rfl w.heap.size 9 i0 (.string ⟨#[]⟩) 16 Tryz.underlying86 hi hz0 hz1 hz2 rfl _ _ _ hown rfl (.string (s.extract 0 60000)) 9 rfl rfl ?c3 ?c4 ?c5 ?_)
   case c3=>unfold maxLen; omega
   case c4=>omega
   case c5=>omega
   intro v' w3 hown' hgrow hblk
   have ho2:w3.ownsRow w.heap.size 9 1 v' (l++[s.extract 0 60000]).length (strs (l++[s.extract 0 60000])):=by
    rw [strs_snoc,List.length_append]; exact hown'
   have HO2:=Lib.hid ho2
   have HW2:Hid (Below w.heap.size w w3):=Lib.hid (hW.out.grown hgrow hbz (fun x e=>(hown.lt x e).1))
   clear hown' hgrow hown ho2 hblk hO hW
   go_wp2_with fail
   go_roundg (s.extract 60000 s.size).size
   case rel=>exact⟨_,s.extract 60000 s.size,rfl,rfl,HC2,HO2,HW2⟩
   case measure=>rw [ByteArray.size_extract]; omega
  ·have h6i:(s.size:Int)≤60000:=by omega
   have HC2:=Lib.hid (hC.out.done (by omega))
   clear hC h6
   go_wp2_with (at_builtin; refine wpList_app1 wr rfl _ _ 86 rfl w.heap.size 9 i0 (.string ⟨#[]⟩) 16 Tryz.underlying86 hi hz0 hz1 hz2 rfl _ _ _ hown rfl (.string s) 9 rfl rfl ?c3 ?c4 ?c5 ?_)
   case c3=>unfold maxLen; omega
   case c4=>omega
   case c5=>omega
   intro v' w3 hown' hgrow hblk
   have ho2:w3.ownsRow w.heap.size 9 1 v' (l++[s]).length (strs (l++[s])):=by
    rw [strs_snoc,List.length_append]; exact hown'
   have HO2:=Lib.hid ho2
   have HW2:Hid (Below w.heap.size w w3):=Lib.hid (hW.out.grown hgrow hbz (fun x e=>(hown.lt x e).1))
   clear hown' hgrow hown ho2 hblk hO hW
   go_wp2_with fail
   go_ret
   obtain⟨a,n,c,hv,hsl,hfr,hnc⟩:=own_slice HO2.out
   subst hv
   exact⟨a,n,c,rfl,by rw [HC2.out]; exact hsl,HW2.out,hfr,hnc⟩
end Go.Proofs.YtlpgbmaoenncjaaGreatDoor

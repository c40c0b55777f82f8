/-
  The walk of wal.has: whether a disk has a file of a name.
-/
import Derived.Test.YtlpgbmaoenncjaaGreatDoorWsOne
import Derived.Test.YtlpgbmaoenncjaaGreatDoorDkTwo
namespace Go.Proofs.YtlpgbmaoenncjaaGreatDoor
open Go.RowKit
set_option linter.unusedVariables false
set_option maxRecDepth 100000
set_option maxHeartbeats 400000 in
theorem hasFile_any (f:Fl) (nm:ByteArray) (B:Nat) (w:World) (hB:w.cell? ⟨B,0,none⟩=some (.string nm)) (v:Bool) (hv:Hid ((f.nm.toList==nm.toList)=v)) :
 Calls Tryz.prog 99 #[.agg #[.string f.nm,.string f.sy,.string f.ta],.pointer (some ⟨B,0,none⟩)] w fun e w'=>e = .returned (.bool v)∧Below w.heap.size w w':=by
 obtain⟨x,y,z⟩:=f
 have hv:(x.toList==nm.toList)=v:=hv.out
 have g:=cell_keep ((Below.refl w.heap.size w).alloc (Nat.le_refl _) (.cells #[.string x,.string y,.string z] 55)) hB
 have hne:B≠w.heap.size:=fun e=>by
  subst e
  unfold World.cell? at hB
  simp at hB
 go_enter Tryz.func99,Tryz.ntmps99
 go_wp2
 go_ret
 exact⟨rfl,(Below.refl _ _).alloc (Nat.le_refl _) _⟩
set_option maxHeartbeats 1000000 in
theorem hasIdx_any (a:Option Addr) (n c:Nat) (l:List Fl) (nm:ByteArray) (B:Nat) (w:World) (h:flE.Sl w a n l) (hn:n≤4398046511104) (hB:w.cell? ⟨B,0,none⟩=some (.string nm)) :
 Calls Tryz.prog 144 #[.slice a n c,.func (.func 99) #[] #[.pointer (some ⟨B,0,none⟩)]] w fun e w'=>e = .returned (.int .i64 (atL l nm))∧Below w.heap.size w w':=by
 have hlen:n=l.length:=h.1
 have HN:=Lib.hid hlen
 have HSL:=Lib.hid h
 have HCB:=Lib.hid hB
 obtain⟨r,hr⟩:∃ r,r=atL l nm:=⟨_,rfl⟩
 rw [← hr]
 have HR:=Lib.hid hr
 clear h hlen hB hr
 go_enter Tryz.func144,Tryz.ntmps144
 go_wp2
 go_loopg [5,8] n (fun gk v5 i wr=>∃ (k:Nat),k≤n∧gk=n - k∧i = .int .i64 (k:Int)∧Hid (Below w.heap.size w wr)∧Hid (∀ j (h:j<l.length),j<k→l[j].nm≠nm))
 case atStart=>exact⟨0,Nat.zero_le _,rfl,rfl,Lib.hid (Below.refl _ _),Lib.hid (fun j h hj=>absurd hj (Nat.not_lt_zero _))⟩
 case round =>
  obtain⟨k,hk,rfl,rfl,hW,hall⟩:=hrel
  by_cases hlt:k<n
  ·have hkd:k<l.length:=by rw [← HN.out]; exact hlt
   obtain⟨-,b,off,rfl,hcells⟩:=fl_at (HSL.out.keep hW.out) (by omega)
   obtain⟨c0,c1,c2⟩:=hcells k hkd
   have hki:(k:Int)<(n:Int):=by omega
   have hop:=Lib.hid (fun (v:Bool) (hv:Hid ((l[k].nm.toList==nm.toList)=v))=>hasFile_any l[k] nm B wr (cell_keep hW.out HCB.out) v hv)
   clear hcells
   by_cases hq:l[k].nm=nm
   ·have HV:=Lib.hid (atL_hit hkd hq hall.out)
    have hc:=Lib.hid (hop.out true (Lib.hid (toList_yes hq)))
    clear hop hall hq
    generalize l[k]=o at *
    obtain⟨o0,o1,o2⟩:=o
    go_wp2_with fail
    refine hc.out.mono ?_
    rintro e w1 ⟨rfl,hb1⟩
    have HB:=Lib.hid (below_then hW.out hb1 hW.out.size)
    clear hb1
    go_wp2_with fail
    go_ret
    exact⟨ret_int (by rw [HR.out,HV.out]),HB.out⟩
   ·have hc:=Lib.hid (hop.out false (Lib.hid (toList_ne hq)))
    have hall2:Hid (∀ j (h:j<l.length),j<k+1→l[j].nm≠nm):=Lib.hid fun j h hj=>by
     by_cases hjk:j=k
     ·subst hjk; exact hq
     ·exact hall.out j h (by omega)
    clear hop hall hq
    generalize l[k]=o at *
    obtain⟨o0,o1,o2⟩:=o
    go_wp2_with fail
    refine hc.out.mono ?_
    rintro e w1 ⟨rfl,hb1⟩
    have HB:=Lib.hid (below_then hW.out hb1 hW.out.size)
    clear hb1
    go_wp2_with fail
    go_roundg (n - (k+1))
    case rel=>exact⟨k+1,by omega,rfl,by go_num,HB,hall2⟩
    case measure=>omega
  ·have HV:=Lib.hid (atL_miss (l:=l) (nm:=nm) (fun j h=>hall.out j h (by have:=HN.out; omega)))
   have hki:(n:Int)≤(k:Int):=by omega
   clear hall
   go_wp2_with fail
   go_ret
   exact⟨ret_int (by rw [HR.out,← HV.out]),hW.out⟩
def hasB (d:Dk) (nm:ByteArray):Bool:=decide (0≤atL d.files nm)
set_option maxHeartbeats 400000 in
theorem hasFunc_any (a:Option Addr) (n c:Nat) (l:List Fl) (nm:ByteArray) (B:Nat) (w:World) (h:flE.Sl w a n l) (hn:n≤4398046511104) (hB:w.cell? ⟨B,0,none⟩=some (.string nm)) :
 Calls Tryz.prog 98 #[.slice a n c,.func (.func 99) #[] #[.pointer (some ⟨B,0,none⟩)]] w fun e w'=>e = .returned (.bool (decide (0≤atL l nm)))∧Below w.heap.size w w':=by
 have H:=Lib.hid (hasIdx_any a n c l nm B w h hn hB)
 obtain⟨r,hr⟩:∃ r,r=atL l nm:=⟨_,rfl⟩
 rw [← hr] at H ⊢
 clear h hn hB hr
 go_enter Tryz.func98,Tryz.ntmps98
 go_wp2_with fail
 refine H.out.mono ?_
 rintro e w1 ⟨rfl,hb1⟩
 by_cases hz:0≤r
 ·have HZ:=Lib.hid hz
  go_wp2_with fail
  go_ret
  exact⟨ret_bool (by simp [HZ.out]),hb1⟩
 ·have HZ:=Lib.hid hz
  have hz2:r<0:=by omega
  clear hz
  go_wp2_with fail
  go_ret
  exact⟨ret_bool (by simp),hb1⟩
set_option maxHeartbeats 400000 in
theorem has_any (a:Option Addr) (n c:Nat) (d:Dk) (nm:ByteArray) (w:World) (h:DkAt w a n c d) (v:Bool) (hv:Hid (v=hasB d nm)) :
 Calls Tryz.prog 51 #[d.val a n c,.string nm] w fun e w'=>e = .returned (.bool v)∧Below w.heap.size w w':=by
 have hmf:∀ fn first cap w,(Instr.makeFunc fn first cap).run Tryz.prog w = .ok (.func fn first cap) w:=fun _ _ _ _=>rfl
 obtain⟨r,l,lf,dn⟩:=d
 have hA:Below w.heap.size w ((w.alloc (.cells #[.int .i64 r,.slice a n c,.int .i64 lf,.bool dn] 38)).alloc (.cells #[.string nm] 9)):=((Below.refl _ w).alloc (Nat.le_refl _) _).alloc (by simp) _
 have hz:=cell_new (w:=w.alloc (.cells #[.int .i64 r,.slice a n c,.int .i64 lf,.bool dn] 38)) (T:=9) (cs:=#[.string nm]) 0 (v:=.string nm) rfl
 rw [World.size_alloc] at hz
 have H:=Lib.hid (hasFunc_any a n c l nm (w.heap.size+1) _ (h.sl.keep hA) h.nb hz)
 have hv:v=decide (0≤atL l nm):=hv.out
 rw [← hv] at H
 have HA:=Lib.hid hA
 clear h hA hz hv
 unfold Dk.val
 dsimp only
 go_enter Tryz.func51,Tryz.ntmps51
 go_wp2_with fail
 refine H.out.mono ?_
 rintro e w1 ⟨rfl,hb1⟩
 have HB:=Lib.hid (below_then HA.out hb1 HA.out.size)
 clear hb1
 go_wp2_with fail
 go_ret
 exact⟨rfl,HB.out⟩
end Go.Proofs.YtlpgbmaoenncjaaGreatDoor

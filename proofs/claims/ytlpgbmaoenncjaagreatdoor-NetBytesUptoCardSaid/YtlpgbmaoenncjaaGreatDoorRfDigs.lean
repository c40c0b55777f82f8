/-
  The walks of hornbookref01's reader: now, digit, wrong, take, fits.
  The walk of hornbookref01's digits: the numeral that stands there, or what is wrong.
  The walk of hornbookref01's number. (Written by wip/mkrfnum.py.)
  The walk of hornbookref01's text. (Written by wip/mkrftext.py.)
-/
import Derived.Test.YtlpgbmaoenncjaaGreatDoorShelf
import Derived.Test.YtlpgbmaoenncjaaGreatDoorRfP
import Derived.BigQuiet
import Derived.Deep.LoopGhost
import Derived.LaidLaws
import Derived.Test.YtlpgbmaoenncjaaGreatDoorCvValue
import Derived.Test.YtlpgbmaoenncjaaGreatDoorPvs
import Derived.Lib.AtoiErrMem
namespace Go.Proofs.YtlpgbmaoenncjaaGreatDoor
open Go.RowKit
set_option linter.unusedVariables false
def nowL (s:ByteArray) (a:Nat):Int:=if h:a<s.size then (s[a].toNat:Int) else -1
set_option maxHeartbeats 1000000 in
theorem now_any (r:Nat) (s:ByteArray) (a:Nat) (m b:Int) (w:World) (h:RdAt w r s a m b) (hs:s.size≤9223372036854775807) (v:Int) (hv:Hid (v=nowL s a)) :
 Calls Tryz.prog 137 #[.pointer (some ⟨r,0,none⟩)] w fun e w'=>e = .returned (.int .i64 v)∧∃ n,w'=w.drewN n:=by
 have c0:=h.c0
 have c1:=h.c1
 clear h
 by_cases h1:a<s.size
 ·have hi:(a:Int)<(s.size:Int):=by omega
  have HV:Hid (v=(s[a].toNat:Int)):=Lib.hid (by rw [hv.out,nowL,dif_pos h1])
  have HW:Hid (wrap64 (s[a].toNat:Int)=(s[a].toNat:Int)):=Lib.hid (by have:=s[a].toNat_lt; unfold wrap64; omega)
  clear hv
  go_enter Tryz.func137,Tryz.ntmps137
  go_wp2_with fail
  go_quiet (fail)
  revert nq
  intro nqa
  go_wp2_with fail
  go_quiet (fail)
  go_wp2_with fail
  go_ret
  exact⟨by rw [HV.out]; exact congrArg (fun z=>Ending.returned (Value.int .i64 z)) HW.out,nqa+nq,by simp⟩
 ·have hi:(s.size:Int)≤(a:Int):=by omega
  have HV:Hid (v = -1):=Lib.hid (by rw [hv.out,nowL,dif_neg h1])
  clear hv h1
  go_enter Tryz.func137,Tryz.ntmps137
  go_wp2_with fail
  go_quiet (fail)
  go_wp2_with fail
  go_ret
  exact⟨by rw [HV.out]; rfl,_,rfl⟩
set_option maxHeartbeats 1000000 in
theorem digit_any (c:Int) (w:World) (v:Bool) (hv:Hid (v=(decide (48≤c)&&decide (c≤57)))) :
 Calls Tryz.prog 138 #[.int .i64 c] w fun e w'=>e = .returned (.bool v)∧w'=w:=by
 by_cases h1:48≤c
 ·by_cases h2:c≤57
  ·have HV:Hid (v=true):=Lib.hid (by rw [hv.out]; simp [h1,h2])
   clear hv
   go_enter Tryz.func138,Tryz.ntmps138
   go_wp2_with fail
   go_ret
   exact⟨by rw [HV.out]; rfl,rfl⟩
  ·have HV:Hid (v=false):=Lib.hid (by rw [hv.out]; simp [h2])
   have h3:57<c:=by omega
   have P3:Hid (decide (c≤57)=false):=Lib.hid (by simpa using h3)
   clear hv h2
   go_enter Tryz.func138,Tryz.ntmps138
   go_wp2_with fail
   go_ret
   exact⟨by rw [HV.out]; exact congrArg (fun z=>Ending.returned (Value.bool z)) P3.out,rfl⟩
 ·have HV:Hid (v=false):=Lib.hid (by rw [hv.out]; simp [h1])
  have h3:c<48:=by omega
  clear hv h1
  go_enter Tryz.func138,Tryz.ntmps138
  go_wp2_with fail
  go_ret
  exact⟨by rw [HV.out]; rfl,rfl⟩
def wrongL (s:ByteArray) (a:Nat):Int:=if a<s.size then 11 else 10
theorem nowL_neg (s:ByteArray) (a:Nat):(nowL s a<0)↔¬ a<s.size:=by
 unfold nowL
 split
 ·rename_i h; constructor
  ·intro h2; omega
  ·intro h2; exact absurd h h2
 ·rename_i h; exact⟨fun _=>h,fun _=>by decide⟩
set_option maxHeartbeats 1000000 in
theorem wrong_any (r:Nat) (s:ByteArray) (a:Nat) (m b:Int) (w:World) (h:RdAt w r s a m b) (hs:s.size≤9223372036854775807) (v:Int) (hv:Hid (v=wrongL s a)) :
 Calls Tryz.prog 139 #[.pointer (some ⟨r,0,none⟩)] w fun e w'=>e = .returned (.tuple #[])∧RdAt w' r s a m v∧w.grownBy w' (some r):=by
 have c3:=h.c3
 have f3:=h.free 3 (by decide)
 have H2:=Lib.hid (h.setBad 11)
 have hg:=Lib.hid (grown_setCell w r 3 (.int .i64 11))
 have hnow:=Lib.hid (now_any r s a m 11 _ H2.out hs (nowL s a) (Lib.hid rfl))
 have hneg:=nowL_neg s a
 generalize nowL s a=q at *
 clear h
 go_enter Tryz.func139,Tryz.ntmps139
 go_wp2_with fail
 refine hnow.out.mono ?_
 rintro e w2 ⟨rfl,n,rfl⟩
 clear hnow c3 f3
 generalize w.setCell ⟨r,3,none⟩ (.int .i64 11)=w3 at *
 have H3:=Lib.hid (H2.out.drewN n)
 have HG:=Lib.hid (grown_trans hg.out (grown_drewN (World.grownBy.refl w3 _) n))
 clear H2 hg
 have c3:=H3.out.c3
 have f3:=H3.out.free 3 (by decide)
 generalize w3.drewN n=w4 at *
 by_cases h1:a<s.size
 ·have hq:0≤q:=by exact Classical.byContradiction fun h=>absurd h1 (hneg.1 (by omega))
  have HV:Hid (v=11):=Lib.hid (by rw [hv.out,wrongL,if_pos h1])
  clear hneg hv h1
  go_wp2_with fail
  go_end0
  rw [HV.out]
  exact⟨rfl,H3.out,HG.out⟩
 ·have hq:q<0:=hneg.2 h1
  have HV:Hid (v=10):=Lib.hid (by rw [hv.out,wrongL,if_neg h1])
  clear hneg hv h1
  go_wp2_with fail
  go_end0
  rw [HV.out]
  exact⟨rfl,H3.out.setBad _,grown_trans HG.out (grown_setCell _ _ _ _)⟩
set_option maxHeartbeats 1000000 in
theorem take_any (r:Nat) (s:ByteArray) (a:Nat) (m:Int) (c:UInt8) (w:World) (h:RdAt w r s a m 0) (hs:s.size≤9223372036854775806) (x:Bool × Nat × Int) (hx:Hid (x=mustL s a c)) :
 Calls Tryz.prog 178 #[.pointer (some ⟨r,0,none⟩),.int .i64 (c.toNat:Int)] w fun e w'=>e = .returned (.tuple #[])∧RdAt w' r s (x.2.1:Int) m x.2.2∧w.grownBy w' (some r):=by
 have c3:=h.c3
 have H:=Lib.hid h
 have hnow:=Lib.hid (now_any r s a m 0 w h (by omega) (nowL s a) (Lib.hid rfl))
 clear h
 go_enter Tryz.func178,Tryz.ntmps178
 go_wp2_with fail
 refine hnow.out.mono ?_
 rintro e w2 ⟨rfl,n,rfl⟩
 clear hnow c3
 have H3:=Lib.hid (H.out.drewN n)
 have HG:=Lib.hid (grown_drewN (World.grownBy.refl w (some r)) n)
 clear H
 generalize w.drewN n=w3 at *
 by_cases h1:∃ h:a<s.size,s[a]=c
 ·obtain⟨h1,h2⟩:=h1
  have HQ:nowL s a=(c.toNat:Int):=by rw [nowL,dif_pos h1,h2]
  have hne:((c.toNat:Int) != (c.toNat:Int))=false:=by simp
  have HX:Hid (x=(true,a+1,0)):=Lib.hid (by rw [hx.out,mustL,dif_pos h1,if_pos h2])
  have hi:(a:Int)<9223372036854775806:=by omega
  have c1:=H3.out.c1
  have f1:=H3.out.free 1 (by decide)
  rw [HQ]
  clear hx h2 HQ
  go_wp2_with fail
  go_end0
  rw [HX.out]
  exact⟨rfl,by rw [Int.natCast_add]; exact H3.out.setAt _,grown_trans HG.out (grown_setCell _ _ _ _)⟩
 ·have HX:Hid (x=(false,a,wrongL s a)):=by
   refine Lib.hid ?_
   rw [hx.out,mustL,wrongL]
   by_cases h2:a<s.size
   ·rw [dif_pos h2,if_neg (fun e=>h1 ⟨h2,e⟩),if_pos h2]
   ·rw [dif_neg h2,if_neg h2]
  have hne:(nowL s a != (c.toNat:Int))=true:=by
   rw [bne_iff_ne,nowL]
   split
   ·rename_i h2
    intro e
    exact h1 ⟨h2,UInt8.toNat_inj.1 (by omega)⟩
   ·omega
  have hwr:=Lib.hid (wrong_any r s a m 0 w3 H3.out (by omega) (wrongL s a) (Lib.hid rfl))
  generalize nowL s a=q at *
  clear hx h1
  go_wp2_with fail
  refine hwr.out.mono ?_
  rintro e w4 ⟨rfl,hr4,hg4⟩
  have HR4:=Lib.hid hr4
  have HG4:=Lib.hid (grown_trans HG.out hg4)
  clear hwr hr4 hg4
  go_wp2_with fail
  (try simp only [Exit.inBlock,Exit.then])
  refine bodyPost_ret (v:=.tuple #[]) (results_none rfl _ _ _) rfl ?_
  rw [HX.out]
  exact⟨rfl,HR4.out,HG4.out⟩
set_option maxHeartbeats 1000000 in
theorem fits_any (t most:ByteArray) (w:World) (v:Bool) (hv:Hid (v=fitsB t most)) :
 Calls Tryz.prog 193 #[.string t,.string most] w fun e w'=>e = .returned (.bool v)∧w'=w:=by
 by_cases h1:1<t.size
 ·have h1i:(1:Int)<(t.size:Int):=by omega
  have h10:0<t.size:=by omega
  have hat:t.data.toList[0]? = some (t[0]'h10):=at_lt h10
  by_cases h2:(t[0]'h10)=48
  ·have e1:(((t[0]'h10).toNat:Int)==48)=true:=by rw [h2]; rfl
   have HV:Hid (v=false):=Lib.hid (by rw [hv.out,fitsB,if_pos ⟨h1,by rw [hat,h2]⟩])
   clear hv hat h2
   go_enter Tryz.func193,Tryz.ntmps193
   go_wp2_with fail
   go_ret
   exact⟨by rw [HV.out]; rfl,rfl⟩
  ·have e1:(((t[0]'h10).toNat:Int)==48)=false:=by
    rw [beq_eq_false_iff_ne]
    intro e
    exact h2 (UInt8.toNat_inj.1 (show (t[0]'h10).toNat=48 by omega))
   have HF:Hid (v=(decide (t.size<most.size)||(decide (t.size=most.size)&&(Op.bytesLess t.toList most.toList||t.toList==most.toList)))):=Lib.hid (by rw [hv.out,fitsB,if_neg (fun h=>h2 (by have:=h.2; rw [hat] at this; exact Option.some.inj this))])
   clear hat h2
   rcases Nat.lt_trichotomy t.size most.size with h3 | h3 | h3
   ·have h3i:(t.size:Int)<(most.size:Int):=by omega
    have HV:Hid (v=true):=Lib.hid (by rw [HF.out]; simp [h3])
    clear hv HF
    go_enter Tryz.func193,Tryz.ntmps193
    go_wp2_with fail
    go_ret
    exact⟨by rw [HV.out]; rfl,rfl⟩
   ·have h3i:(t.size:Int)=(most.size:Int):=by omega
    have P1:(decide ((t.size:Int)<(most.size:Int)))=false:=by simp; omega
    have P2:((t.size:Int)==(most.size:Int))=true:=by simpa using h3i
    have HV:Hid (v=(Op.bytesLess t.toList most.toList||t.toList==most.toList)):=Lib.hid (by rw [HF.out]; simp [h3])
    have h4:¬ (t.size:Int)<(most.size:Int):=by omega
    clear hv HF h3i h3
    go_enter Tryz.func193,Tryz.ntmps193
    go_wp2_with fail
    go_ret
    exact⟨by rw [HV.out]; rfl,rfl⟩
   ·have h3i:(most.size:Int)<(t.size:Int):=by omega
    have P2:((t.size:Int)==(most.size:Int))=false:=by rw [beq_eq_false_iff_ne]; omega
    have P1:(decide ((t.size:Int)<(most.size:Int)))=false:=by simp; omega
    have HV:Hid (v=false):=Lib.hid (by rw [HF.out,decide_eq_false (show ¬ t.size<most.size by omega),decide_eq_false (show ¬ t.size=most.size by omega)]; rfl)
    have h4:¬ (t.size:Int)<(most.size:Int):=by omega
    clear hv HF h3
    go_enter Tryz.func193,Tryz.ntmps193
    go_wp2_with fail
    go_ret
    exact⟨by rw [HV.out]; rfl,rfl⟩
 ·have h1i:(t.size:Int)≤1:=by omega
  have HF:Hid (v=(decide (t.size<most.size)||(decide (t.size=most.size)&&(Op.bytesLess t.toList most.toList||t.toList==most.toList)))):=Lib.hid (by rw [hv.out,fitsB,if_neg (fun h=>h1 h.1)])
  clear h1
  rcases Nat.lt_trichotomy t.size most.size with h3 | h3 | h3
  ·have h3i:(t.size:Int)<(most.size:Int):=by omega
   have HV:Hid (v=true):=Lib.hid (by rw [HF.out]; simp [h3])
   clear hv HF
   go_enter Tryz.func193,Tryz.ntmps193
   go_wp2_with fail
   go_ret
   exact⟨by rw [HV.out]; rfl,rfl⟩
  ·have h3i:(t.size:Int)=(most.size:Int):=by omega
   have P1:(decide ((t.size:Int)<(most.size:Int)))=false:=by simp; omega
   have P2:((t.size:Int)==(most.size:Int))=true:=by simpa using h3i
   have HV:Hid (v=(Op.bytesLess t.toList most.toList||t.toList==most.toList)):=Lib.hid (by rw [HF.out]; simp [h3])
   have h4:¬ (t.size:Int)<(most.size:Int):=by omega
   clear hv HF h3i h3
   go_enter Tryz.func193,Tryz.ntmps193
   go_wp2_with fail
   go_ret
   exact⟨by rw [HV.out]; rfl,rfl⟩
  ·have h3i:(most.size:Int)<(t.size:Int):=by omega
   have P2:((t.size:Int)==(most.size:Int))=false:=by rw [beq_eq_false_iff_ne]; omega
   have P1:(decide ((t.size:Int)<(most.size:Int)))=false:=by simp; omega
   have HV:Hid (v=false):=Lib.hid (by rw [HF.out,decide_eq_false (show ¬ t.size<most.size by omega),decide_eq_false (show ¬ t.size=most.size by omega)]; rfl)
   have h4:¬ (t.size:Int)<(most.size:Int):=by omega
   clear hv HF h3
   go_enter Tryz.func193,Tryz.ntmps193
   go_wp2_with fail
   go_ret
   exact⟨by rw [HV.out]; rfl,rfl⟩
end Go.Proofs.YtlpgbmaoenncjaaGreatDoor
namespace Go.Proofs.YtlpgbmaoenncjaaGreatDoor
open Go.RowKit
set_option linter.unusedVariables false
theorem dec_size (n:Nat):(⟨(Lib.decDigits n).toArray⟩:ByteArray).size≠0:=by
 show (Lib.decDigits n).toArray.size≠0
 rw [List.size_toArray]
 have:=dec_pos n
 omega
theorem one_app (l:List UInt8) (c:UInt8):((⟨l.toArray⟩:ByteArray)++⟨#[c]⟩)=⟨(l++[c]).toArray⟩:=by
 apply ByteArray.ext
 simp
theorem one_string (w:World) (c:UInt8):(convert 120 9 (.slice (some ⟨w.heap.size,0,none⟩) 1 1)).run Tryz.prog (w.alloc (.cells #[.int .u8 (c.toNat:Int)] 5)) = .ok (.string ⟨#[c]⟩) (w.alloc (.cells #[.int .u8 (c.toNat:Int)] 5)):=by
 refine run_convert_bytes_back _ 120 9 5 ⟨w.heap.size,0,none⟩ 1 [c] Tryz.underlying120 Tryz.underlying5 Tryz.underlying9 fun j hj=>?_
 have hj0:j=0:=by simpa using hj
 subst hj0
 have hb:(w.alloc (.cells #[.int .u8 (c.toNat:Int)] 5)).heap[w.heap.size]? = some (.cells #[.int .u8 (c.toNat:Int)] 5 (0,0)):=heap_alloc_new w _
 exact (Lib.cell_of_heap hb _).trans rfl
set_option maxRecDepth 20000 in
set_option maxHeartbeats 1000000 in
theorem rdigits_any (r:Nat) (s:ByteArray) (a0:Nat) (m:Int) (most:ByteArray) (M:Nat) (w:World) (h:RdAt w r s a0 m 0) (hs:s.size≤131072) (ha:a0≤s.size) (h9:9≤M) (hmost:Hid (most=⟨(Lib.decDigits M).toArray⟩))
 (x:Nat × Bool × Nat × Int) (hx:Hid (x=digitsL s M a0 (s.size+1 - a0) 0 a0)) :
 Calls Tryz.prog 177 #[.pointer (some ⟨r,0,none⟩),.string most] w (fun e w'=>∃ t:ByteArray,e = .returned (.string t)∧RdAt w' r s (x.2.2.1:Int) m x.2.2.2∧w.grownBy w' (some r)∧(x.2.1=true→t=⟨(Lib.decDigits x.1).toArray⟩)):=by
 have H:=Lib.hid h
 clear h
 go_enter Tryz.func177,Tryz.ntmps177
 go_wp2_with fail
 go_loopg [5] (s.size+1 - a0) (fun gk v wr=>∃ (n a:Nat) (t:ByteArray),v = .string t∧gk=s.size+1 - a∧a≤s.size∧a0≤a∧t.size≤a∧Hid (a=a0→t=⟨#[]⟩∧n=0)∧Hid (a0<a→t=⟨(Lib.decDigits n).toArray⟩)∧Hid (RdAt wr r s (a:Int) m 0)∧Hid (w.grownBy wr (some r))∧Hid (x=digitsL s M a0 gk n a))
 case atStart=>exact⟨0,a0,⟨#[]⟩,rfl,rfl,ha,Nat.le_refl _,Nat.zero_le _,Lib.hid fun _=>⟨rfl,rfl⟩,Lib.hid fun h=>absurd h (Nat.lt_irrefl _),H,Lib.hid (World.grownBy.refl _ _),hx⟩
 case round =>
  obtain⟨n,a,t,rfl,rfl,hal,haa,hts,hT0,hT1,hR,hG,hX⟩:=hrel
  clear H hx
  have hnow:=Lib.hid (now_any r s a m 0 wr hR.out (by omega) (nowL s a) (Lib.hid rfl))
  have hst:=hX.out
  rw [show s.size+1 - a=(s.size - a)+1 by omega,digitsL] at hst
  by_cases h1:∃ h:a<s.size,48≤s[a].toNat∧s[a].toNat≤57
  ·obtain⟨h1,h2,h3⟩:=h1
   rw [dif_pos h1,if_neg (by omega)] at hst
   have HST:=Lib.hid hst
   have HQ:nowL s a=(s[a].toNat:Int):=by rw [nowL,dif_pos h1]
   rw [HQ] at hnow
   have hdg:=Lib.hid (fun w1=>digit_any (s[a].toNat:Int) w1 true (Lib.hid (by rw [decide_eq_true (show (48:Int)≤(s[a].toNat:Int) by omega),decide_eq_true (show (s[a].toNat:Int)≤57 by omega)]; rfl)))
   clear hst hX HQ
   go_wp2_with fail
   refine hnow.out.mono ?_
   rintro e w2 ⟨rfl,n2,rfl⟩
   go_wp2_with fail
   refine (hdg.out _).mono ?_
   rintro e w3 ⟨rfl,rfl⟩
   go_wp2_with fail
   refine ((Lib.hid (fun w1 (h:RdAt w1 r s a m 0)=>now_any r s a m 0 w1 h (by omega) (s[a].toNat:Int) (Lib.hid (by rw [nowL,dif_pos h1])))).out _ (hR.out.drewN _)).mono ?_
   rintro e w3 ⟨rfl,n3,rfl⟩
   have HR4:=Lib.hid ((hR.out.drewN n2).drewN n3)
   have HG4:=Lib.hid (grown_trans hG.out (grown_drewN (grown_drewN (World.grownBy.refl wr (some r)) n2) n3))
   clear hnow hdg
   generalize (wr.drewN n2).drewN n3=w4 at *
   have hconv:=one_string w4 s[a]
   have HR5:=Lib.hid (HR4.out.alloc (.cells #[.int .u8 (s[a].toNat:Int)] 5))
   have HG5:=Lib.hid (grown_trans HG4.out (World.grownBy_alloc w4 (.cells #[.int .u8 (s[a].toNat:Int)] 5) (some r)))
   have hlen:t.size+1≤9223372036854775807:=by omega
   have HF:Hid (fitsB (t++⟨#[s[a]]⟩) most=!(decide ((a0<a∧n=0)∨(M - (s[a].toNat - 48)) / 10<n))):=by
    refine Lib.hid ?_
    rw [hmost.out]
    rcases Nat.eq_or_lt_of_le haa with h4 | h4
    ·obtain⟨e1,e2⟩:=hT0.out h4.symm
     rw [e1,e2,show ((⟨#[]⟩:ByteArray)++⟨#[s[a]]⟩)=⟨[s[a]].toArray⟩ from one_app _ _,(fits_step 0 M h9 s[a] ⟨h2,h3⟩).2]
     simp [h4]
    ·rw [hT1.out h4,one_app,(fits_step n M h9 s[a] ⟨h2,h3⟩).1]
     simp [h4]
   have hft:=Lib.hid (fun w1=>fits_any (t++⟨#[s[a]]⟩) most w1 _ (Lib.hid HF.out.symm))
   go_wp2_with fail
   refine (hft.out _).mono ?_
   rintro e w6 ⟨rfl,rfl⟩
   clear hft HF hconv HR4 HG4
   generalize w4.alloc (.cells #[.int .u8 (s[a].toNat:Int)] 5)=w6 at *
   by_cases hbad:(a0<a∧n=0)∨(M - (s[a].toNat - 48)) / 10<n
   ·have HX2:Hid (x=(0,false,a,11)):=Lib.hid (by rw [HST.out,if_pos hbad])
    rw [decide_eq_true hbad]
    have d3:=HR5.out.c3
    have k3:=HR5.out.free 3 (by decide)
    clear HST hT0 hT1 hbad
    go_wp2_with fail
    go_ret
    rw [HX2.out]
    exact⟨⟨#[]⟩,rfl,HR5.out.setBad _,grown_trans HG5.out (grown_setCell _ _ _ _),fun h=>by cases h⟩
   ·have HX2:Hid (x=digitsL s M a0 (s.size+1 - (a+1)) (10*n+(s[a].toNat - 48)) (a+1)):=Lib.hid (by rw [HST.out,if_neg hbad,show s.size+1 - (a+1)=s.size - a by omega])
    have HT2:Hid (t++⟨#[s[a]]⟩=⟨(Lib.decDigits (10*n+(s[a].toNat - 48))).toArray⟩):=by
     refine Lib.hid ?_
     rcases Nat.eq_or_lt_of_le haa with h4 | h4
     ·obtain⟨e1,e2⟩:=hT0.out h4.symm
      rw [e1,e2,show ((⟨#[]⟩:ByteArray)++⟨#[s[a]]⟩)=⟨[s[a]].toArray⟩ from one_app _ _,Lib.decDigits,dif_pos (by omega),show 48+(10*0+(s[a].toNat - 48))=48+(s[a].toNat - 48) by omega,digit_of (by omega)]
     ·have hn:n≠0:=fun e=>hbad (.inl ⟨h4,e⟩)
      rw [hT1.out h4,one_app,Lib.decDigits.eq_1 (10*n+(s[a].toNat - 48)),dif_neg (by omega),show (10*n+(s[a].toNat - 48)) / 10=n by omega,show (10*n+(s[a].toNat - 48)) % 10=s[a].toNat - 48 by omega,digit_of (by omega)]
    have HS2:Hid ((t++⟨#[s[a]]⟩:ByteArray).size≤a+1):=Lib.hid (by rw [ByteArray.size_append]; show t.size+1≤a+1; omega)
    rw [decide_eq_false hbad]
    have d1:=HR5.out.c1
    have k1:=HR5.out.free 1 (by decide)
    have hai:(a:Int)<131072:=by omega
    clear HST hT0 hT1 hbad
    generalize (t++⟨#[s[a]]⟩:ByteArray)=t2 at *
    go_wp2_with fail
    go_roundg (s.size+1 - (a+1))
    case rel=>exact⟨_,a+1,t2,rfl,rfl,h1,by omega,HS2.out,Lib.hid (fun e=>by omega),Lib.hid (fun _=>HT2.out),Lib.hid (by rw [Int.natCast_add]; exact HR5.out.setAt _),Lib.hid (grown_trans HG5.out (grown_setCell _ _ _ _)),HX2⟩
    case measure=>omega
  ·have HND:Hid ((decide (48≤nowL s a)&&decide (nowL s a≤57))=false):=by
    refine Lib.hid ?_
    unfold nowL
    split
    ·rename_i h2
     rcases Nat.lt_or_ge s[a].toNat 48 with h3 | h3
     ·rw [decide_eq_false (show ¬ (48:Int)≤(s[a].toNat:Int) by omega)]; rfl
     ·rw [decide_eq_false (show ¬ (s[a].toNat:Int)≤57 from fun h4=>h1 ⟨h2,h3,by omega⟩),Bool.and_false]
    ·rfl
   have hdg:=Lib.hid (fun w1=>digit_any (nowL s a) w1 false (Lib.hid HND.out.symm))
   generalize hq:nowL s a=q at *
   have HQ:=Lib.hid hq
   clear hq
   go_wp2_with fail
   refine hnow.out.mono ?_
   rintro e w2 ⟨rfl,n2,rfl⟩
   go_wp2_with fail
   refine (hdg.out _).mono ?_
   rintro e w3 ⟨rfl,rfl⟩
   have HR4:=Lib.hid (hR.out.drewN n2)
   have HG4:=Lib.hid (grown_trans hG.out (grown_drewN (World.grownBy.refl wr (some r)) n2))
   clear hnow hdg HND
   generalize wr.drewN n2=w4 at *
   have hcase:(a=a0∧x=(0,false,a,wrongL s a))∨(a0<a∧s.size≤a∧x=(0,false,a,10))∨(a0<a∧a<s.size∧x=(n,true,a,0)):=by
    rcases Nat.lt_or_ge a s.size with h2 | h2
    ·rw [dif_pos h2,if_pos (by
      rcases Nat.lt_or_ge s[a].toNat 48 with h3 | h3
      ·exact .inl h3
      ·exact .inr (Nat.lt_of_not_le fun h4=>h1 ⟨h2,h3,h4⟩))] at hst
     by_cases h3:a=a0
     ·rw [if_pos h3] at hst
      exact .inl ⟨h3,by rw [hst,wrongL,if_pos h2]⟩
     ·rw [if_neg h3] at hst
      exact .inr (.inr ⟨by omega,h2,hst⟩)
    ·rw [dif_neg (by omega)] at hst
     by_cases h3:a=a0
     ·exact .inl ⟨h3,by rw [hst,wrongL,if_neg (by omega)]⟩
     ·exact .inr (.inl ⟨by omega,h2,hst⟩)
   clear hst hX h1
   rcases hcase with ⟨h2,h3⟩ | ⟨h2,h3,h4⟩ | ⟨h2,h3,h4⟩
   ·obtain⟨rfl,-⟩:=hT0.out h2
    have HX2:=Lib.hid h3
    have hwr:=Lib.hid (wrong_any r s a m 0 w4 HR4.out (by omega) (wrongL s a) (Lib.hid rfl))
    clear h2 h3 hT0 hT1 HQ
    go_wp2_with fail
    refine hwr.out.mono ?_
    rintro e w5 ⟨rfl,hr5,hg5⟩
    have HR5:=Lib.hid hr5
    have HG5:=Lib.hid (grown_trans HG4.out hg5)
    clear hwr hr5 hg5
    go_wp2_with fail
    go_ret
    rw [HX2.out]
    exact⟨⟨#[]⟩,rfl,HR5.out,HG5.out,fun h=>by cases h⟩
   ·have hne:t.size≠0:=by
     rw [hT1.out h2]; exact dec_size n
    have p1:=eqNil_no hne
    have p2:=isEmpty_no hne
    have HX2:=Lib.hid h4
    have hq1:q<0:=by rw [← HQ.out]; exact (nowL_neg s a).2 (by omega)
    have hnw:=Lib.hid (now_any r s a m 0 w4 HR4.out (by omega) q (Lib.hid HQ.out.symm))
    have hw10:wrongL s a=10:=by rw [wrongL,if_neg (by omega)]
    have hwr:=Lib.hid (fun w1 (h:RdAt w1 r s a m 0)=>wrong_any r s a m 0 w1 h (by omega) 10 (Lib.hid hw10.symm))
    clear h2 h3 h4 hT0 hT1 HQ hne hw10
    go_wp2_with fail
    refine hnw.out.mono ?_
    rintro e w5 ⟨rfl,n5,rfl⟩
    have HR5:=Lib.hid (HR4.out.drewN n5)
    have HG5:=Lib.hid (grown_trans HG4.out (grown_drewN (World.grownBy.refl w4 (some r)) n5))
    clear hnw
    generalize w4.drewN n5=w5 at *
    go_wp2_with fail
    refine (hwr.out _ HR5.out).mono ?_
    rintro e w6 ⟨rfl,hr6,hg6⟩
    have HR6:=Lib.hid hr6
    have HG6:=Lib.hid (grown_trans HG5.out hg6)
    clear hwr hr6 hg6
    go_wp2_with fail
    go_ret
    rw [HX2.out]
    exact⟨t,rfl,HR6.out,HG6.out,fun h=>by cases h⟩
   ·have HT:=Lib.hid (hT1.out h2)
    have hne:t.size≠0:=by
     rw [HT.out]; exact dec_size n
    have p1:=eqNil_no hne
    have p2:=isEmpty_no hne
    have HX2:=Lib.hid h4
    have hq1:0≤q:=by
     rw [← HQ.out]
     exact Classical.byContradiction fun h=>absurd h3 ((nowL_neg s a).1 (by omega))
    have hnw:=Lib.hid (now_any r s a m 0 w4 HR4.out (by omega) q (Lib.hid HQ.out.symm))
    clear h2 h3 h4 hT0 hT1 HQ hne
    go_wp2_with fail
    refine hnw.out.mono ?_
    rintro e w5 ⟨rfl,n5,rfl⟩
    have HR5:=Lib.hid (HR4.out.drewN n5)
    have HG5:=Lib.hid (grown_trans HG4.out (grown_drewN (World.grownBy.refl w4 (some r)) n5))
    clear hnw
    generalize w4.drewN n5=w5 at *
    go_wp2_with fail
    go_ret
    rw [HX2.out]
    exact⟨t,rfl,HR5.out,HG5.out,fun _=>HT.out⟩
end Go.Proofs.YtlpgbmaoenncjaaGreatDoor
namespace Go.Proofs.YtlpgbmaoenncjaaGreatDoor
open Go.RowKit
set_option linter.unusedVariables false
theorem results_cell_one {fn:Func}{p:Tmp}{ty:TypeId}(h:fn.results=#[.cell p ty]) (tmps:Array Value) (P:Program) (w:World) :
 (results fn tmps).run P w=((asAddr (tmps.getD p undef)).run P w).andThen fun a w₁=>(loadVar ty a).run P w₁:=by
 simp only [results,h]
 simp [Sem.run_bind,Result.andThen]
def RfPost (r:Nat) (s:ByteArray) (w:World) (x:Rd) (e:Ending) (w':World):Prop :=
 ∃ cs:List Value,e = .returned (.agg cs.toArray)∧(∃ y:V,V.At w' (fun b=>w.heap.size≤b∧b<w'.heap.size) y cs∧(x.ok=true→y=x.v))∧RdAt w' r s (x.at_:Int) (x.many:Int) x.bad∧w.grownBy w' (some r)
set_option maxHeartbeats 1000000 in
theorem take_bad (r:Nat) (s:ByteArray) (a m b:Int) (c:Int) (w:World) (h:RdAt w r s a m b) (hb:b≠0) :
 Calls Tryz.prog 178 #[.pointer (some ⟨r,0,none⟩),.int .i64 c] w fun e w'=>e = .returned (.tuple #[])∧w'=w:=by
 have c3:=h.c3
 have q1:(b != 0)=true:=by simpa using hb
 have q2:(b==0)=false:=by simpa using hb
 clear h hb
 go_enter Tryz.func178,Tryz.ntmps178
 go_wp2_with fail
 (try simp only [Exit.inBlock,Exit.then])
 refine bodyPost_ret (v:=.tuple #[]) (results_none rfl _ _ _) rfl ?_
 exact⟨rfl,rfl⟩
theorem most_false:(⟨#[57,50,50,51,51,55,50,48,51,54,56,53,52,55,55,53,56,48,55]⟩:ByteArray)=⟨(Lib.decDigits 9223372036854775807).toArray⟩:=by
 rw [show Lib.decDigits 9223372036854775807=[57,50,50,51,51,55,50,48,51,54,56,53,52,55,55,53,56,48,55] by simp [Lib.decDigits]]
theorem most_true:(⟨#[57,50,50,51,51,55,50,48,51,54,56,53,52,55,55,53,56,48,56]⟩:ByteArray)=⟨(Lib.decDigits 9223372036854775808).toArray⟩:=by
 rw [show Lib.decDigits 9223372036854775808=[57,50,50,51,51,55,50,48,51,54,56,53,52,55,55,53,56,48,56] by simp [Lib.decDigits]]
theorem numTail_ok (s:ByteArray) (M:Nat) (mi:Bool) (A:Nat) (h1:(digitsL s M A (s.size+1 - A) 0 A).2.1=true) (h2:(mustL s (digitsL s M A (s.size+1 - A) 0 A).2.2.1 101).1=true) :
 numTail s M mi A=((if mi=true then -((digitsL s M A (s.size+1 - A) 0 A).1:Int) else ((digitsL s M A (s.size+1 - A) 0 A).1:Int)),true,(mustL s (digitsL s M A (s.size+1 - A) 0 A).2.2.1 101).2.1,0):=by unfold numTail; rw [if_pos h1,if_pos h2]
theorem numTail_must (s:ByteArray) (M:Nat) (mi:Bool) (A:Nat) (h1:(digitsL s M A (s.size+1 - A) 0 A).2.1=true) (h2:(mustL s (digitsL s M A (s.size+1 - A) 0 A).2.2.1 101).1≠true) :
 numTail s M mi A=(0,false,(mustL s (digitsL s M A (s.size+1 - A) 0 A).2.2.1 101).2.1,(mustL s (digitsL s M A (s.size+1 - A) 0 A).2.2.1 101).2.2):=by unfold numTail; rw [if_pos h1,if_neg h2]
theorem numTail_dig (s:ByteArray) (M:Nat) (mi:Bool) (A:Nat) (h1:(digitsL s M A (s.size+1 - A) 0 A).2.1≠true) :
 numTail s M mi A=(0,false,(digitsL s M A (s.size+1 - A) 0 A).2.2.1,(digitsL s M A (s.size+1 - A) 0 A).2.2.2):=by unfold numTail; rw [if_neg h1]
theorem dec_app (l:List UInt8) (N:Nat):((⟨l.toArray⟩:ByteArray)++⟨(Lib.decDigits N).toArray⟩)=⟨(l++Lib.decDigits N).toArray⟩:=by
 apply ByteArray.ext
 simp
theorem sg_false (N:Nat) (h:N≤9223372036854775807):Lib.parseIntB 64 (((⟨#[]⟩:ByteArray)++⟨(Lib.decDigits N).toArray⟩).data.toList) = .ok (N:Int):=by
 rw [show ((⟨#[]⟩:ByteArray)++⟨(Lib.decDigits N).toArray⟩)=⟨([]++Lib.decDigits N).toArray⟩ from dec_app [] N,Lib.parseIntB_64]
 exact atoi_dec N h
theorem sg_true (N:Nat) (h:N≤9223372036854775808):Lib.parseIntB 64 (((⟨#[45]⟩:ByteArray)++⟨(Lib.decDigits N).toArray⟩).data.toList) = .ok (-(N:Int)):=by
 rw [show ((⟨#[45]⟩:ByteArray)++⟨(Lib.decDigits N).toArray⟩)=⟨([45]++Lib.decDigits N).toArray⟩ from dec_app [45] N,Lib.parseIntB_64]
 exact atoi_neg N h
theorem sg_size_false (N:Nat) (h:N≤9223372036854775807):((⟨#[]⟩:ByteArray)++⟨(Lib.decDigits N).toArray⟩).size≤9223372036854775806:=by
 rw [ByteArray.size_append]
 have:=dec_len N (by omega)
 show 0+(Lib.decDigits N).toArray.size≤_
 rw [List.size_toArray]
 omega
theorem sg_size_true (N:Nat) (h:N≤9223372036854775808):((⟨#[45]⟩:ByteArray)++⟨(Lib.decDigits N).toArray⟩).size≤9223372036854775806:=by
 rw [ByteArray.size_append]
 have:=dec_len N (by omega)
 show 1+(Lib.decDigits N).toArray.size≤_
 rw [List.size_toArray]
 omega
set_option maxRecDepth 20000 in
set_option maxHeartbeats 1000000 in
theorem rnumber_any (r:Nat) (s:ByteArray) (a m:Nat) (w:World) (h:RdAt w r s a m 0) (hs:s.size≤131072) (ha:a<s.size) (x:Rd) (hx:Hid (x=rdNumber s (a+1) m)) :
 Calls Tryz.prog 140 #[.pointer (some ⟨r,0,none⟩)] w (RfPost r s w x):=by
 have hrlt:=h.lt
 have HRLT:=Lib.hid h.lt
 have h2:=h.alloc (.cells #[.int .i64 0,.int .i64 0,.string ⟨#[]⟩,.slice none 0 0] 70)
 have c1:=h2.c1
 have f1:=h2.free 1 (by decide)
 have HR3:Hid (RdAt ((w.setCell ⟨r,1,none⟩ (.int .i64 ((a:Int)+1))).alloc (.cells #[.int .i64 0,.int .i64 0,.string ⟨#[]⟩,.slice none 0 0] 70)) r s ((a+1:Nat):Int) m 0):=Lib.hid (by rw [Int.natCast_add]; exact (h.setAt _).alloc _)
 have hsz:(w.setCell ⟨r,1,none⟩ (.int .i64 ((a:Int)+1))).heap.size=w.heap.size:=by simp
 have HF3:Hid (Four ((w.setCell ⟨r,1,none⟩ (.int .i64 ((a:Int)+1))).alloc (.cells #[.int .i64 0,.int .i64 0,.string ⟨#[]⟩,.slice none 0 0] 70)) w.heap.size 70 (.int .i64 0) (.int .i64 0) (.string ⟨#[]⟩) (.slice none 0 0)):=Lib.hid (by have:=Four.new (w.setCell ⟨r,1,none⟩ (.int .i64 ((a:Int)+1))) 70 (.int .i64 0) (.int .i64 0) (.string ⟨#[]⟩) (.slice none 0 0); rwa [hsz] at this)
 have HG3:=Lib.hid (grown_trans (grown_setCell w r 1 (.int .i64 ((a:Int)+1))) (World.grownBy_alloc _ (.cells #[.int .i64 0,.int .i64 0,.string ⟨#[]⟩,.slice none 0 0] 70) (some r)))
 have hai:(a:Int)<131072:=by omega
 clear h h2 hsz
 go_enter Tryz.func140,Tryz.ntmps140
 go_wp2_with fail
 clear c1 f1
 generalize (w.setCell ⟨r,1,none⟩ (.int .i64 ((a:Int)+1))).alloc (.cells #[.int .i64 0,.int .i64 0,.string ⟨#[]⟩,.slice none 0 0] 70)=w3 at *
 obtain⟨A,hAe⟩:∃ A,A=a+1:=⟨_,rfl⟩
 have hAs:A≤s.size:=by omega
 rw [← hAe] at HR3 hx
 clear hAe
 have hnow:=Lib.hid (now_any r s A m 0 w3 HR3.out (by omega) (nowL s A) (Lib.hid rfl))
 have hxn:=hx.out
 unfold rdNumber numberL at hxn
 by_cases h1:s.data.toList[A]? = some 45
 ·have hlt:=at_some h1
  rw [if_pos h1] at hxn
  have HQ:nowL s A=45:=by
   rw [nowL,dif_pos hlt]
   have:=at_of h1 hlt
   rw [this]; rfl
  rw [HQ] at hnow
  have d1:=HR3.out.c1
  have k1:=HR3.out.free 1 (by decide)
  have hai2:(A:Int)<131073:=by omega
  have HXN:=Lib.hid hxn
  clear HQ h1 hxn hx
  go_wp2_with fail
  refine hnow.out.mono ?_
  rintro e w4 ⟨rfl,n4,rfl⟩
  have HR4a:=HR3.out.drewN n4
  have HF4a:Four (w3.drewN n4) w.heap.size 70 (.int .i64 0) (.int .i64 0) (.string ⟨#[]⟩) (.slice none 0 0):=HF3.out.drewN n4
  have HG4a:=grown_trans HG3.out (grown_drewN (World.grownBy.refl w3 (some r)) n4)
  clear hnow HR3 HF3 HG3 d1 k1
  generalize w3.drewN n4=w4 at *
  have d1:=HR4a.c1
  have k1:=HR4a.free 1 (by decide)
  have HR5:Hid (RdAt (w4.setCell ⟨r,1,none⟩ (.int .i64 ((A:Int)+1))) r s ((A+1:Nat):Int) m 0):=Lib.hid (by rw [Int.natCast_add]; exact HR4a.setAt _)
  have HF5:=Lib.hid (HF4a.kept (grown_setCell w4 r 1 (.int .i64 ((A:Int)+1))) (by simp; omega))
  have HG5:=Lib.hid (grown_trans HG4a (grown_setCell w4 r 1 (.int .i64 ((A:Int)+1))))
  have hai3:(A:Int)+1<131074:=by omega
  clear HR4a HF4a HG4a
  go_wp2_with fail
  clear d1 k1
  generalize w4.setCell ⟨r,1,none⟩ (.int .i64 ((A:Int)+1))=w5 at *
  obtain⟨A2,hAe2⟩:∃ A2,A2=A+1:=⟨_,rfl⟩
  have hAs2:A2≤s.size:=by omega
  rw [← hAe2] at HR5 HXN
  clear hAe2
  have hnow2:=Lib.hid (now_any r s A2 m 0 w5 HR5.out (by omega) (nowL s A2) (Lib.hid rfl))
  have hxn:=HXN.out
  by_cases h1:s.data.toList[A2]? = some 48
  ·have hlt2:=at_some h1
   have HX:Hid (x=⟨.mk 1 0 ⟨#[]⟩ [],false,A2,m,11⟩):=Lib.hid (by rw [hxn,if_pos h1])
   have HQ:nowL s A2=48:=by
    rw [nowL,dif_pos hlt2]
    have:=at_of h1 hlt2
    rw [this]; rfl
   rw [HQ] at hnow2
   clear HQ h1 hxn HXN
   refine hnow2.out.mono ?_
   rintro e w6 ⟨rfl,n6,rfl⟩
   have HR6a:=HR5.out.drewN n6
   have HF6a:Four (w5.drewN n6) w.heap.size 70 (.int .i64 0) (.int .i64 0) (.string ⟨#[]⟩) (.slice none 0 0):=HF5.out.drewN n6
   have HG6a:=grown_trans HG5.out (grown_drewN (World.grownBy.refl w5 (some r)) n6)
   clear hnow2 HR5 HF5 HG5
   generalize w5.drewN n6=w6a at *
   have d3:=HR6a.c3
   have k3:=HR6a.free 3 (by decide)
   have HR6:=Lib.hid (HR6a.setBad 11)
   have HF6:=Lib.hid (HF6a.kept (grown_setCell w6a r 3 (.int .i64 11)) (by simp; omega))
   have HG6:=Lib.hid (grown_trans HG6a (grown_setCell w6a r 3 (.int .i64 11)))
   clear HR6a HF6a HG6a
   have b0:=HF6.out.c0
   have b1:=HF6.out.c1
   have b2:=HF6.out.c2
   have b3:=HF6.out.c3
   have g0:=HF6.out.free 0
   have g1:=HF6.out.free 1
   have g2:=HF6.out.free 2
   have g3:=HF6.out.free 3
   go_wp2_with fail
   have HF9:=HF6.out.all (.int .i64 0) (.int .i64 0) (.string ⟨#[]⟩) (.slice none 0 0)
   have hgf:=grown_four (w6a.setCell ⟨r,3,none⟩ (.int .i64 11)) w.heap.size (.int .i64 0) (.int .i64 0) (.string ⟨#[]⟩) (.slice none 0 0)
   clear b0 b1 b2 b3 g0 g1 g2 g3 d3 k3
   generalize (((((w6a.setCell ⟨r,3,none⟩ (.int .i64 11)).setCell ⟨w.heap.size,0,none⟩ (.int .i64 0)).setCell ⟨w.heap.size,1,none⟩ (.int .i64 0)).setCell ⟨w.heap.size,2,none⟩ (.string ⟨#[]⟩)).setCell ⟨w.heap.size,3,none⟩ (.slice none 0 0))=w10 at *
   have e0:=HF9.c0
   have e1:=HF9.c1
   have e2:=HF9.c2
   have e3:=HF9.c3
   (try simp only [Exit.inBlock,Exit.then])
   refine bodyPost_ret (v:=.agg #[.int .i64 0,.int .i64 0,.string ⟨#[]⟩,.slice none 0 0]) ?_ rfl ?_
   ·rw [results_cell_one rfl]; go_simp
   ·rw [HX.out]
    exact⟨_,rfl,⟨zeroV,zeroV_at _ _,fun h=>by cases h⟩,HR6.out.kept hgf (by have:=HR6.out.lt; have:=HRLT.out; simp; omega),grown_fresh HG6.out hgf (Nat.le_refl _)⟩
  ·rw [if_neg h1] at hxn
   have hxt:=Lib.hid hxn
   have hne:(nowL s A2==48)=false:=by
    rw [beq_eq_false_iff_ne,nowL]
    split
    ·rename_i h2
     intro e
     exact h1 (by rw [at_lt h2]; exact congrArg some (UInt8.toNat_inj.1 (show s[A2].toNat=48 by omega)))
    ·decide
   generalize nowL s A2=q2 at *
   clear hxn HXN h1
   refine hnow2.out.mono ?_
   rintro e w6 ⟨rfl,n6,rfl⟩
   have HR4:=Lib.hid (HR5.out.drewN n6)
   have HF4:Hid (Four (w5.drewN n6) w.heap.size 70 (.int .i64 0) (.int .i64 0) (.string ⟨#[]⟩) (.slice none 0 0)):=Lib.hid (HF5.out.drewN n6)
   have HG4:=Lib.hid (grown_trans HG5.out (grown_drewN (World.grownBy.refl w5 (some r)) n6))
   clear hnow2 HR5 HF5 HG5
   generalize w5.drewN n6=w4a at *
   have HD:=Lib.hid (rdigits_any r s (A2) m _ 9223372036854775808 _ HR4.out hs (by omega) (by decide) (Lib.hid most_true) (digitsL s 9223372036854775808 (A2) (s.size+1 - (A2)) 0 (A2)) (Lib.hid rfl))
   have hdok:=digitsL_ok s 9223372036854775808 (A2) (by decide) (s.size+1 - (A2)) 0 (A2) (Nat.le_refl _) (Nat.zero_le _)
   have hdno:=digitsL_no s 9223372036854775808 (A2) (s.size+1 - (A2)) 0 (A2) (by omega)
   have hst:=hxt.out
   have hA:=numTail_ok s 9223372036854775808 true (A2)
   have hB:=numTail_must s 9223372036854775808 true (A2)
   have hC:=numTail_dig s 9223372036854775808 true (A2)
   generalize numTail s 9223372036854775808 true (A2)=q at *
   generalize digitsL s 9223372036854775808 (A2) (s.size+1 - (A2)) 0 (A2)=y at *
   obtain⟨N,ok,at1,bad1⟩:=y
   dsimp only at hdok hdno hA hB hC HD
   have HOK:=Lib.hid hdok
   have HNO:=Lib.hid hdno
   have HA:=Lib.hid hA
   have HB:=Lib.hid hB
   have HC:=Lib.hid hC
   have HST:=Lib.hid hst
   clear hxt hdok hdno hA hB hC hst
   go_wp2_with fail
   refine HD.out.mono ?_
   rintro e w5 ⟨t,rfl,hr5,hg5,ht⟩
   (try dsimp only at hr5 ht)
   have HR5:=Lib.hid hr5
   have HG5:=Lib.hid (grown_trans HG4.out hg5)
   have HF5:=Lib.hid (HF4.out.kept hg5 (by have:=HR4.out.lt; simp; omega))
   have HT:=Lib.hid ht
   clear HD hr5 hg5 HR4 HG4 HF4 ht
   by_cases hy:ok=true
   ·subst hy
    obtain⟨hb0,hN,hlt,hsz⟩:=HOK.out rfl
    have hT:=HT.out rfl
    subst hT
    subst hb0
    have HTK:=Lib.hid (take_any r s at1 m 101 w5 HR5.out (by omega) (mustL s at1 101) (Lib.hid rfl))
    have hmok:=mustL_ok s at1 101
    have hmno:=mustL_no s at1 101 (by omega)
    generalize mustL s at1 101=z at *
    obtain⟨zok,at2,bad2⟩:=z
    dsimp only at hmok hmno HTK
    have HA2:=Lib.hid (HA.out rfl)
    have HB2:=Lib.hid (HB.out rfl)
    have HMO:=Lib.hid hmok
    have HMN:=Lib.hid hmno
    have HN:=Lib.hid hN
    clear hmok hmno hN HA HB HC HOK HNO HT
    go_wp2_with fail
    refine HTK.out.mono ?_
    rintro e w6 ⟨rfl,hr6,hg6⟩
    have HR6:=Lib.hid hr6
    have HG6:=Lib.hid (grown_trans HG5.out hg6)
    have HF6:=Lib.hid (HF5.out.kept hg6 (by have:=HR5.out.lt; simp; omega))
    clear HTK hr6 hg6 HG5 HF5
    cases zok with
    | true =>
      obtain rfl:=HMO.out rfl
      have d3:=HR6.out.c3
      have HP:=Lib.hid (Tryz.strconv_ParseInt_10_at64_ok (((⟨#[45]⟩:ByteArray)++⟨(Lib.decDigits N).toArray⟩)) (sg_size_true N HN.out) (-(N:Int)) (sg_true N HN.out) w6)
      have HX:Hid (x=⟨.mk 1 (-(N:Int)) ⟨#[]⟩ [],true,at2,m,0⟩):=Lib.hid (by rw [HST.out,HA2.out rfl]; rfl)
      have hsl:(Lib.decDigits N).length≤19:=dec_len N (Nat.lt_of_le_of_lt HN.out (by decide))
      clear HST HMO HMN HA2 HB2
      go_wp2_with fail
      refine HP.out.mono ?_
      rintro e w7 ⟨rfl,hw7⟩
      have hb7:Below w6.heap.size w6 w7:=by
       rcases hw7 with rfl | ⟨tt,rfl⟩
       ·exact Below.refl _ _
       ·exact Lib.bytesWorld_below _ _ _
      have HR7:=Lib.hid (HR6.out.kept (grown_of_below hb7 none) (by simp))
      have HG7:=Lib.hid (grown_trans HG6.out (grown_of_below hb7 (some r)))
      have HF7:=Lib.hid (HF6.out.kept (grown_of_below hb7 none) (by simp))
      clear HP hw7 hb7 HR6 HG6 HF6 d3
      have b0:=HF7.out.c0
      have b1:=HF7.out.c1
      have b2:=HF7.out.c2
      have b3:=HF7.out.c3
      have g0:=HF7.out.free 0
      have g1:=HF7.out.free 1
      have g2:=HF7.out.free 2
      have g3:=HF7.out.free 3
      go_wp2_with fail
      have HF9:=HF7.out.all (.int .i64 1) (.int .i64 (-(N:Int))) (.string ⟨#[]⟩) (.slice none 0 0)
      have hgf:=grown_four w7 w.heap.size (.int .i64 1) (.int .i64 (-(N:Int))) (.string ⟨#[]⟩) (.slice none 0 0)
      clear b0 b1 b2 b3 g0 g1 g2 g3
      generalize ((((w7.setCell ⟨w.heap.size,0,none⟩ (.int .i64 1)).setCell ⟨w.heap.size,1,none⟩ (.int .i64 (-(N:Int)))).setCell ⟨w.heap.size,2,none⟩ (.string ⟨#[]⟩)).setCell ⟨w.heap.size,3,none⟩ (.slice none 0 0))=w10 at *
      have e0:=HF9.c0
      have e1:=HF9.c1
      have e2:=HF9.c2
      have e3:=HF9.c3
      (try simp only [Exit.inBlock,Exit.then])
      refine bodyPost_ret (v:=.agg #[.int .i64 1,.int .i64 (-(N:Int)),.string ⟨#[]⟩,.slice none 0 0]) ?_ rfl ?_
      ·rw [results_cell_one rfl]; go_simp
      ·rw [HX.out]
       exact⟨_,rfl,⟨.mk 1 (-(N:Int)) ⟨#[]⟩ [],by simp only [V.At]; exact⟨none,0,rfl,Nat.le_refl _,fun _=>rfl,by simp only [VAll]⟩,fun _=>rfl⟩,HR7.out.kept hgf (by have:=HR7.out.lt; have:=HRLT.out; simp; omega),grown_fresh HG7.out hgf (Nat.le_refl _)⟩
    | false =>
      have hb2:=HMN.out.2 (by simp)
      have q1:(bad2 != 0)=true:=by simpa using hb2
      have q2:(bad2==0)=false:=by simpa using hb2
      have d3:=HR6.out.c3
      have HX:Hid (x=⟨.mk 1 0 ⟨#[]⟩ [],false,at2,m,bad2⟩):=Lib.hid (by rw [HST.out,HB2.out (by simp)])
      clear HST HMO HMN HA2 HB2 hb2
      have b0:=HF6.out.c0
      have b1:=HF6.out.c1
      have b2:=HF6.out.c2
      have b3:=HF6.out.c3
      have g0:=HF6.out.free 0
      have g1:=HF6.out.free 1
      have g2:=HF6.out.free 2
      have g3:=HF6.out.free 3
      go_wp2_with fail
      have HF9:=HF6.out.all (.int .i64 0) (.int .i64 0) (.string ⟨#[]⟩) (.slice none 0 0)
      have hgf:=grown_four w6 w.heap.size (.int .i64 0) (.int .i64 0) (.string ⟨#[]⟩) (.slice none 0 0)
      clear b0 b1 b2 b3 g0 g1 g2 g3 d3
      generalize ((((w6.setCell ⟨w.heap.size,0,none⟩ (.int .i64 0)).setCell ⟨w.heap.size,1,none⟩ (.int .i64 0)).setCell ⟨w.heap.size,2,none⟩ (.string ⟨#[]⟩)).setCell ⟨w.heap.size,3,none⟩ (.slice none 0 0))=w10 at *
      have e0:=HF9.c0
      have e1:=HF9.c1
      have e2:=HF9.c2
      have e3:=HF9.c3
      (try simp only [Exit.inBlock,Exit.then])
      refine bodyPost_ret (v:=.agg #[.int .i64 0,.int .i64 0,.string ⟨#[]⟩,.slice none 0 0]) ?_ rfl ?_
      ·rw [results_cell_one rfl]; go_simp
      ·rw [HX.out]
       exact⟨_,rfl,⟨zeroV,zeroV_at _ _,fun h=>by cases h⟩,HR6.out.kept hgf (by have:=HR6.out.lt; have:=HRLT.out; simp; omega),grown_fresh HG6.out hgf (Nat.le_refl _)⟩
   ·have hb1:=HNO.out.2 hy
    have q1:(bad1 != 0)=true:=by simpa using hb1
    have q2:(bad1==0)=false:=by simpa using hb1
    have HTK:=Lib.hid (take_bad r s (at1:Int) m bad1 101 w5 HR5.out hb1)
    have d3:=HR5.out.c3
    have HX:Hid (x=⟨.mk 1 0 ⟨#[]⟩ [],false,at1,m,bad1⟩):=Lib.hid (by rw [HST.out,HC.out hy])
    clear HST HOK HNO hb1 hy HT HA HB HC
    go_wp2_with fail
    refine HTK.out.mono ?_
    rintro e w6 ⟨rfl,rfl⟩
    clear HTK
    have b0:=HF5.out.c0
    have b1:=HF5.out.c1
    have b2:=HF5.out.c2
    have b3:=HF5.out.c3
    have g0:=HF5.out.free 0
    have g1:=HF5.out.free 1
    have g2:=HF5.out.free 2
    have g3:=HF5.out.free 3
    go_wp2_with fail
    have HF9:=HF5.out.all (.int .i64 0) (.int .i64 0) (.string ⟨#[]⟩) (.slice none 0 0)
    have hgf:=grown_four w6 w.heap.size (.int .i64 0) (.int .i64 0) (.string ⟨#[]⟩) (.slice none 0 0)
    clear b0 b1 b2 b3 g0 g1 g2 g3 d3
    generalize ((((w6.setCell ⟨w.heap.size,0,none⟩ (.int .i64 0)).setCell ⟨w.heap.size,1,none⟩ (.int .i64 0)).setCell ⟨w.heap.size,2,none⟩ (.string ⟨#[]⟩)).setCell ⟨w.heap.size,3,none⟩ (.slice none 0 0))=w10 at *
    have e0:=HF9.c0
    have e1:=HF9.c1
    have e2:=HF9.c2
    have e3:=HF9.c3
    (try simp only [Exit.inBlock,Exit.then])
    refine bodyPost_ret (v:=.agg #[.int .i64 0,.int .i64 0,.string ⟨#[]⟩,.slice none 0 0]) ?_ rfl ?_
    ·rw [results_cell_one rfl]; go_simp
    ·rw [HX.out]
     exact⟨_,rfl,⟨zeroV,zeroV_at _ _,fun h=>by cases h⟩,HR5.out.kept hgf (by have:=HR5.out.lt; have:=HRLT.out; simp; omega),grown_fresh HG5.out hgf (Nat.le_refl _)⟩
 ·rw [if_neg h1] at hxn
  have hne:(nowL s A==45)=false:=by
   rw [beq_eq_false_iff_ne,nowL]
   split
   ·rename_i h2
    intro e
    exact h1 (by rw [at_lt h2]; exact congrArg some (UInt8.toNat_inj.1 (show s[A].toNat=45 by omega)))
   ·decide
  have hxt:=Lib.hid hxn
  generalize nowL s A=q at *
  clear hxn hx h1
  go_wp2_with fail
  refine hnow.out.mono ?_
  rintro e w4 ⟨rfl,n4,rfl⟩
  have HR4:=Lib.hid (HR3.out.drewN n4)
  have HF4:Hid (Four (w3.drewN n4) w.heap.size 70 (.int .i64 0) (.int .i64 0) (.string ⟨#[]⟩) (.slice none 0 0)):=Lib.hid (HF3.out.drewN n4)
  have HG4:=Lib.hid (grown_trans HG3.out (grown_drewN (World.grownBy.refl w3 (some r)) n4))
  clear hnow HR3 HF3 HG3
  generalize w3.drewN n4=w4 at *
  have HD:=Lib.hid (rdigits_any r s (A) m _ 9223372036854775807 _ HR4.out hs (by omega) (by decide) (Lib.hid most_false) (digitsL s 9223372036854775807 (A) (s.size+1 - (A)) 0 (A)) (Lib.hid rfl))
  have hdok:=digitsL_ok s 9223372036854775807 (A) (by decide) (s.size+1 - (A)) 0 (A) (Nat.le_refl _) (Nat.zero_le _)
  have hdno:=digitsL_no s 9223372036854775807 (A) (s.size+1 - (A)) 0 (A) (by omega)
  have hst:=hxt.out
  have hA:=numTail_ok s 9223372036854775807 false (A)
  have hB:=numTail_must s 9223372036854775807 false (A)
  have hC:=numTail_dig s 9223372036854775807 false (A)
  generalize numTail s 9223372036854775807 false (A)=q at *
  generalize digitsL s 9223372036854775807 (A) (s.size+1 - (A)) 0 (A)=y at *
  obtain⟨N,ok,at1,bad1⟩:=y
  dsimp only at hdok hdno hA hB hC HD
  have HOK:=Lib.hid hdok
  have HNO:=Lib.hid hdno
  have HA:=Lib.hid hA
  have HB:=Lib.hid hB
  have HC:=Lib.hid hC
  have HST:=Lib.hid hst
  clear hxt hdok hdno hA hB hC hst
  go_wp2_with fail
  refine HD.out.mono ?_
  rintro e w5 ⟨t,rfl,hr5,hg5,ht⟩
  (try dsimp only at hr5 ht)
  have HR5:=Lib.hid hr5
  have HG5:=Lib.hid (grown_trans HG4.out hg5)
  have HF5:=Lib.hid (HF4.out.kept hg5 (by have:=HR4.out.lt; simp; omega))
  have HT:=Lib.hid ht
  clear HD hr5 hg5 HR4 HG4 HF4 ht
  by_cases hy:ok=true
  ·subst hy
   obtain⟨hb0,hN,hlt,hsz⟩:=HOK.out rfl
   have hT:=HT.out rfl
   subst hT
   subst hb0
   have HTK:=Lib.hid (take_any r s at1 m 101 w5 HR5.out (by omega) (mustL s at1 101) (Lib.hid rfl))
   have hmok:=mustL_ok s at1 101
   have hmno:=mustL_no s at1 101 (by omega)
   generalize mustL s at1 101=z at *
   obtain⟨zok,at2,bad2⟩:=z
   dsimp only at hmok hmno HTK
   have HA2:=Lib.hid (HA.out rfl)
   have HB2:=Lib.hid (HB.out rfl)
   have HMO:=Lib.hid hmok
   have HMN:=Lib.hid hmno
   have HN:=Lib.hid hN
   clear hmok hmno hN HA HB HC HOK HNO HT
   go_wp2_with fail
   refine HTK.out.mono ?_
   rintro e w6 ⟨rfl,hr6,hg6⟩
   have HR6:=Lib.hid hr6
   have HG6:=Lib.hid (grown_trans HG5.out hg6)
   have HF6:=Lib.hid (HF5.out.kept hg6 (by have:=HR5.out.lt; simp; omega))
   clear HTK hr6 hg6 HG5 HF5
   cases zok with
   | true =>
     obtain rfl:=HMO.out rfl
     have d3:=HR6.out.c3
     have HP:=Lib.hid (Tryz.strconv_ParseInt_10_at64_ok (((⟨#[]⟩:ByteArray)++⟨(Lib.decDigits N).toArray⟩)) (sg_size_false N HN.out) ((N:Int)) (sg_false N HN.out) w6)
     have HX:Hid (x=⟨.mk 1 ((N:Int)) ⟨#[]⟩ [],true,at2,m,0⟩):=Lib.hid (by rw [HST.out,HA2.out rfl]; rfl)
     have hsl:(Lib.decDigits N).length≤19:=dec_len N (Nat.lt_of_le_of_lt HN.out (by decide))
     clear HST HMO HMN HA2 HB2
     go_wp2_with fail
     refine HP.out.mono ?_
     rintro e w7 ⟨rfl,hw7⟩
     have hb7:Below w6.heap.size w6 w7:=by
      rcases hw7 with rfl | ⟨tt,rfl⟩
      ·exact Below.refl _ _
      ·exact Lib.bytesWorld_below _ _ _
     have HR7:=Lib.hid (HR6.out.kept (grown_of_below hb7 none) (by simp))
     have HG7:=Lib.hid (grown_trans HG6.out (grown_of_below hb7 (some r)))
     have HF7:=Lib.hid (HF6.out.kept (grown_of_below hb7 none) (by simp))
     clear HP hw7 hb7 HR6 HG6 HF6 d3
     have b0:=HF7.out.c0
     have b1:=HF7.out.c1
     have b2:=HF7.out.c2
     have b3:=HF7.out.c3
     have g0:=HF7.out.free 0
     have g1:=HF7.out.free 1
     have g2:=HF7.out.free 2
     have g3:=HF7.out.free 3
     go_wp2_with fail
     have HF9:=HF7.out.all (.int .i64 1) (.int .i64 ((N:Int))) (.string ⟨#[]⟩) (.slice none 0 0)
     have hgf:=grown_four w7 w.heap.size (.int .i64 1) (.int .i64 ((N:Int))) (.string ⟨#[]⟩) (.slice none 0 0)
     clear b0 b1 b2 b3 g0 g1 g2 g3
     generalize ((((w7.setCell ⟨w.heap.size,0,none⟩ (.int .i64 1)).setCell ⟨w.heap.size,1,none⟩ (.int .i64 ((N:Int)))).setCell ⟨w.heap.size,2,none⟩ (.string ⟨#[]⟩)).setCell ⟨w.heap.size,3,none⟩ (.slice none 0 0))=w10 at *
     have e0:=HF9.c0
     have e1:=HF9.c1
     have e2:=HF9.c2
     have e3:=HF9.c3
     (try simp only [Exit.inBlock,Exit.then])
     refine bodyPost_ret (v:=.agg #[.int .i64 1,.int .i64 ((N:Int)),.string ⟨#[]⟩,.slice none 0 0]) ?_ rfl ?_
     ·rw [results_cell_one rfl]; go_simp
     ·rw [HX.out]
      exact⟨_,rfl,⟨.mk 1 ((N:Int)) ⟨#[]⟩ [],by simp only [V.At]; exact⟨none,0,rfl,Nat.le_refl _,fun _=>rfl,by simp only [VAll]⟩,fun _=>rfl⟩,HR7.out.kept hgf (by have:=HR7.out.lt; have:=HRLT.out; simp; omega),grown_fresh HG7.out hgf (Nat.le_refl _)⟩
   | false =>
     have hb2:=HMN.out.2 (by simp)
     have q1:(bad2 != 0)=true:=by simpa using hb2
     have q2:(bad2==0)=false:=by simpa using hb2
     have d3:=HR6.out.c3
     have HX:Hid (x=⟨.mk 1 0 ⟨#[]⟩ [],false,at2,m,bad2⟩):=Lib.hid (by rw [HST.out,HB2.out (by simp)])
     clear HST HMO HMN HA2 HB2 hb2
     have b0:=HF6.out.c0
     have b1:=HF6.out.c1
     have b2:=HF6.out.c2
     have b3:=HF6.out.c3
     have g0:=HF6.out.free 0
     have g1:=HF6.out.free 1
     have g2:=HF6.out.free 2
     have g3:=HF6.out.free 3
     go_wp2_with fail
     have HF9:=HF6.out.all (.int .i64 0) (.int .i64 0) (.string ⟨#[]⟩) (.slice none 0 0)
     have hgf:=grown_four w6 w.heap.size (.int .i64 0) (.int .i64 0) (.string ⟨#[]⟩) (.slice none 0 0)
     clear b0 b1 b2 b3 g0 g1 g2 g3 d3
     generalize ((((w6.setCell ⟨w.heap.size,0,none⟩ (.int .i64 0)).setCell ⟨w.heap.size,1,none⟩ (.int .i64 0)).setCell ⟨w.heap.size,2,none⟩ (.string ⟨#[]⟩)).setCell ⟨w.heap.size,3,none⟩ (.slice none 0 0))=w10 at *
     have e0:=HF9.c0
     have e1:=HF9.c1
     have e2:=HF9.c2
     have e3:=HF9.c3
     (try simp only [Exit.inBlock,Exit.then])
     refine bodyPost_ret (v:=.agg #[.int .i64 0,.int .i64 0,.string ⟨#[]⟩,.slice none 0 0]) ?_ rfl ?_
     ·rw [results_cell_one rfl]; go_simp
     ·rw [HX.out]
      exact⟨_,rfl,⟨zeroV,zeroV_at _ _,fun h=>by cases h⟩,HR6.out.kept hgf (by have:=HR6.out.lt; have:=HRLT.out; simp; omega),grown_fresh HG6.out hgf (Nat.le_refl _)⟩
  ·have hb1:=HNO.out.2 hy
   have q1:(bad1 != 0)=true:=by simpa using hb1
   have q2:(bad1==0)=false:=by simpa using hb1
   have HTK:=Lib.hid (take_bad r s (at1:Int) m bad1 101 w5 HR5.out hb1)
   have d3:=HR5.out.c3
   have HX:Hid (x=⟨.mk 1 0 ⟨#[]⟩ [],false,at1,m,bad1⟩):=Lib.hid (by rw [HST.out,HC.out hy])
   clear HST HOK HNO hb1 hy HT HA HB HC
   go_wp2_with fail
   refine HTK.out.mono ?_
   rintro e w6 ⟨rfl,rfl⟩
   clear HTK
   have b0:=HF5.out.c0
   have b1:=HF5.out.c1
   have b2:=HF5.out.c2
   have b3:=HF5.out.c3
   have g0:=HF5.out.free 0
   have g1:=HF5.out.free 1
   have g2:=HF5.out.free 2
   have g3:=HF5.out.free 3
   go_wp2_with fail
   have HF9:=HF5.out.all (.int .i64 0) (.int .i64 0) (.string ⟨#[]⟩) (.slice none 0 0)
   have hgf:=grown_four w6 w.heap.size (.int .i64 0) (.int .i64 0) (.string ⟨#[]⟩) (.slice none 0 0)
   clear b0 b1 b2 b3 g0 g1 g2 g3 d3
   generalize ((((w6.setCell ⟨w.heap.size,0,none⟩ (.int .i64 0)).setCell ⟨w.heap.size,1,none⟩ (.int .i64 0)).setCell ⟨w.heap.size,2,none⟩ (.string ⟨#[]⟩)).setCell ⟨w.heap.size,3,none⟩ (.slice none 0 0))=w10 at *
   have e0:=HF9.c0
   have e1:=HF9.c1
   have e2:=HF9.c2
   have e3:=HF9.c3
   (try simp only [Exit.inBlock,Exit.then])
   refine bodyPost_ret (v:=.agg #[.int .i64 0,.int .i64 0,.string ⟨#[]⟩,.slice none 0 0]) ?_ rfl ?_
   ·rw [results_cell_one rfl]; go_simp
   ·rw [HX.out]
    exact⟨_,rfl,⟨zeroV,zeroV_at _ _,fun h=>by cases h⟩,HR5.out.kept hgf (by have:=HR5.out.lt; have:=HRLT.out; simp; omega),grown_fresh HG5.out hgf (Nat.le_refl _)⟩
end Go.Proofs.YtlpgbmaoenncjaaGreatDoor
namespace Go.Proofs.YtlpgbmaoenncjaaGreatDoor
open Go.RowKit
set_option linter.unusedVariables false
theorem most_text:(⟨#[49,51,49,48,55,50]⟩:ByteArray)=⟨(Lib.decDigits 131072).toArray⟩:=by
 rw [show Lib.decDigits 131072=[49,51,49,48,55,50] by simp [Lib.decDigits]]
theorem rdText_dig (s:ByteArray) (a m:Nat) (h1:(digitsL s 131072 a (s.size+1 - a) 0 a).2.1≠true):rdText s a m=Rd.no (digitsL s 131072 a (s.size+1 - a) 0 a).2.2.1 m (digitsL s 131072 a (s.size+1 - a) 0 a).2.2.2:=by unfold rdText; rw [if_neg h1]
theorem rdText_must (s:ByteArray) (a m:Nat) (h1:(digitsL s 131072 a (s.size+1 - a) 0 a).2.1=true) (h2:(mustL s (digitsL s 131072 a (s.size+1 - a) 0 a).2.2.1 58).1≠true):rdText s a m=Rd.no (mustL s (digitsL s 131072 a (s.size+1 - a) 0 a).2.2.1 58).2.1 m (mustL s (digitsL s 131072 a (s.size+1 - a) 0 a).2.2.1 58).2.2:=by unfold rdText; rw [if_pos h1,if_neg h2]
theorem rdText_end (s:ByteArray) (a m:Nat) (h1:(digitsL s 131072 a (s.size+1 - a) 0 a).2.1=true) (h2:(mustL s (digitsL s 131072 a (s.size+1 - a) 0 a).2.2.1 58).1=true) (h3:s.size - (mustL s (digitsL s 131072 a (s.size+1 - a) 0 a).2.2.1 58).2.1<(digitsL s 131072 a (s.size+1 - a) 0 a).1):rdText s a m=Rd.no s.size m 10:=by unfold rdText; rw [if_pos h1,if_pos h2,if_pos h3]
theorem rdText_ok (s:ByteArray) (a m:Nat) (h1:(digitsL s 131072 a (s.size+1 - a) 0 a).2.1=true) (h2:(mustL s (digitsL s 131072 a (s.size+1 - a) 0 a).2.2.1 58).1=true) (h3:¬ s.size - (mustL s (digitsL s 131072 a (s.size+1 - a) 0 a).2.2.1 58).2.1<(digitsL s 131072 a (s.size+1 - a) 0 a).1) :
 rdText s a m=⟨.mk 2 0 (s.extract (mustL s (digitsL s 131072 a (s.size+1 - a) 0 a).2.2.1 58).2.1 ((mustL s (digitsL s 131072 a (s.size+1 - a) 0 a).2.2.1 58).2.1+(digitsL s 131072 a (s.size+1 - a) 0 a).1)) [],true,(mustL s (digitsL s 131072 a (s.size+1 - a) 0 a).2.2.1 58).2.1+(digitsL s 131072 a (s.size+1 - a) 0 a).1,m,0⟩:=by unfold rdText; rw [if_pos h1,if_pos h2,if_neg h3]
set_option maxRecDepth 20000 in
set_option maxHeartbeats 2000000 in
theorem rtext_any (r:Nat) (s:ByteArray) (a m:Nat) (w:World) (h:RdAt w r s a m 0) (hs:s.size≤131072) (ha:a≤s.size) (x:Rd) (hx:Hid (x=rdText s a m)) :
 Calls Tryz.prog 141 #[.pointer (some ⟨r,0,none⟩)] w (RfPost r s w x):=by
 have HRLT:=Lib.hid h.lt
 have HR4:=Lib.hid (h.alloc (.cells #[.int .i64 0,.int .i64 0,.string ⟨#[]⟩,.slice none 0 0] 70))
 have HF4:=Lib.hid (Four.new w 70 (.int .i64 0) (.int .i64 0) (.string ⟨#[]⟩) (.slice none 0 0))
 have HG4:=Lib.hid (World.grownBy_alloc w (.cells #[.int .i64 0,.int .i64 0,.string ⟨#[]⟩,.slice none 0 0] 70) (some r))
 have HD:=Lib.hid (rdigits_any r s a m _ 131072 _ HR4.out hs ha (by decide) (Lib.hid most_text) (digitsL s 131072 a (s.size+1 - a) 0 a) (Lib.hid rfl))
 have hdok:=digitsL_ok s 131072 a (by decide) (s.size+1 - a) 0 a (Nat.le_refl _) (Nat.zero_le _)
 have hdno:=digitsL_no s 131072 a (s.size+1 - a) 0 a ha
 have hA:=rdText_ok s a m
 have hB:=rdText_must s a m
 have hC:=rdText_dig s a m
 have hE:=rdText_end s a m
 have HST:Hid (x=rdText s a m):=hx
 generalize rdText s a m=q at *
 generalize digitsL s 131072 a (s.size+1 - a) 0 a=y at *
 obtain⟨N,ok,at1,bad1⟩:=y
 dsimp only at hdok hdno hA hB hC hE HD
 have HOK:=Lib.hid hdok
 have HNO:=Lib.hid hdno
 have HA:=Lib.hid hA
 have HB:=Lib.hid hB
 have HC:=Lib.hid hC
 have HE:=Lib.hid hE
 clear h hx hdok hdno hA hB hC hE
 go_enter Tryz.func141,Tryz.ntmps141
 go_wp2_with fail
 refine HD.out.mono ?_
 rintro e w5 ⟨t,rfl,hr5,hg5,ht⟩
 (try dsimp only at hr5 ht)
 have HR5:=Lib.hid hr5
 have HG5:=Lib.hid (grown_trans HG4.out hg5)
 have HF5:=Lib.hid (HF4.out.kept hg5 (by have:=HRLT.out; simp; omega))
 have HT:=Lib.hid ht
 clear HD hr5 hg5 HR4 HG4 HF4 ht
 by_cases hy:ok=true
 ·subst hy
  obtain⟨hb0,hN,hlt,hsz⟩:=HOK.out rfl
  have hT:=HT.out rfl
  subst hT
  subst hb0
  have HTK:=Lib.hid (take_any r s at1 m 58 w5 HR5.out (by omega) (mustL s at1 58) (Lib.hid rfl))
  have hmok:=mustL_ok s at1 58
  have hmat:=mustL_at s at1 58
  have hmno:=mustL_no s at1 58 (by omega)
  have HA2:=Lib.hid (HA.out rfl)
  have HB2:=Lib.hid (HB.out rfl)
  have HE2:=Lib.hid (HE.out rfl)
  clear HA HB HC HE HOK HNO HT
  generalize mustL s at1 58=z at *
  obtain⟨zok,at2,bad2⟩:=z
  dsimp only at hmok hmno hmat HTK HA2 HB2 HE2
  have HMO:=Lib.hid hmok
  have HMN:=Lib.hid hmno
  have HMA:=Lib.hid hmat
  clear hmok hmno hmat
  go_wp2_with fail
  refine HTK.out.mono ?_
  rintro e w6 ⟨rfl,hr6,hg6⟩
  have HR6:=Lib.hid hr6
  have HG6:=Lib.hid (grown_trans HG5.out hg6)
  have HF6:=Lib.hid (HF5.out.kept hg6 (by have:=HRLT.out; simp; omega))
  clear HTK hr6 hg6 HG5 HF5 HR5
  have d3:=HR6.out.c3
  cases zok with
  | true =>
    obtain rfl:=HMO.out rfl
    have hat2:at2≤s.size:=HMN.out.1
    have HP:=Lib.hid (Tryz.strconv_Atoi_ok ⟨(Lib.decDigits N).toArray⟩ (by have:=dec_len N (by omega); show (Lib.decDigits N).toArray.size≤_; rw [List.size_toArray]; omega) (N:Int) (by rw [show (⟨(Lib.decDigits N).toArray⟩:ByteArray).data.toList=Lib.decDigits N by simp]; exact atoi_dec N (by omega)) w6)
    have HA3:=Lib.hid (HA2.out rfl)
    have HE3:=Lib.hid (HE2.out rfl)
    clear HMO HMN HMA HA2 HB2 HE2
    go_wp2_with fail
    refine HP.out.mono ?_
    rintro e w7 ⟨rfl,hw7⟩
    have hb7:Below w6.heap.size w6 w7:=by
     rcases hw7 with rfl | ⟨tt,rfl⟩
     ·exact Below.refl _ _
     ·exact Lib.bytesWorld_below _ _ _
    have HR7:=Lib.hid (HR6.out.kept (grown_of_below hb7 none) (by simp))
    have HG7:=Lib.hid (grown_trans HG6.out (grown_of_below hb7 (some r)))
    have HF7:=Lib.hid (HF6.out.kept (grown_of_below hb7 none) (by simp))
    clear HP hw7 hb7 HR6 HG6 HF6 d3
    have d0:=HR7.out.c0
    have d1:=HR7.out.c1
    have hni:(N:Int)≤131072:=by omega
    have hai:(at2:Int)≤131072:=by omega
    have hsi:(s.size:Int)≤131072:=by omega
    by_cases hlong:s.size - at2<N
    ·have hl2:(s.size:Int)<(at2:Int)+(N:Int):=by omega
     have HX:Hid (x=Rd.no s.size m 10):=Lib.hid (by rw [HST.out,HE3.out hlong])
     clear HA3 HE3 hlong HST
     go_wp2_with fail
     go_quiet (fail)
     clear d0 d1
     have HR8a:=HR7.out.drewN nq
     have HF8a:Four (w7.drewN nq) w.heap.size 70 (.int .i64 0) (.int .i64 0) (.string ⟨#[]⟩) (.slice none 0 0):=HF7.out.drewN nq
     have HG8a:=grown_trans HG7.out (grown_drewN (World.grownBy.refl w7 (some r)) nq)
     clear HR7 HG7 HF7
     generalize w7.drewN nq=w8 at *
     have d0:=HR8a.c0
     have k1:=HR8a.free 1 (by decide)
     have d1:=HR8a.c1
     have hr9:=HR8a.setAt (s.size:Int)
     have d3:=hr9.c3
     have k3:=hr9.free 3 (by decide)
     have HR9:=Lib.hid (hr9.setBad 10)
     have hg9:=grown_trans (grown_setCell w8 r 1 (.int .i64 (s.size:Int))) (grown_setCell (w8.setCell ⟨r,1,none⟩ (.int .i64 (s.size:Int))) r 3 (.int .i64 10))
     have HF9:=Lib.hid (HF8a.kept hg9 (by have:=HRLT.out; simp; omega))
     have HG9:=Lib.hid (grown_trans HG8a hg9)
     clear HR8a HF8a HG8a hr9 hg9
     have b0:=HF9.out.c0
     have b1:=HF9.out.c1
     have b2:=HF9.out.c2
     have b3:=HF9.out.c3
     have g0:=HF9.out.free 0
     have g1:=HF9.out.free 1
     have g2:=HF9.out.free 2
     have g3:=HF9.out.free 3
     go_wp2_with fail
     have HF9b:=HF9.out.all (.int .i64 0) (.int .i64 0) (.string ⟨#[]⟩) (.slice none 0 0)
     have hgf:=grown_four ((w8.setCell ⟨r,1,none⟩ (.int .i64 (s.size:Int))).setCell ⟨r,3,none⟩ (.int .i64 10)) w.heap.size (.int .i64 0) (.int .i64 0) (.string ⟨#[]⟩) (.slice none 0 0)
     clear b0 b1 b2 b3 g0 g1 g2 g3 d0 d1 d3 k1 k3
     generalize ((((((w8.setCell ⟨r,1,none⟩ (.int .i64 (s.size:Int))).setCell ⟨r,3,none⟩ (.int .i64 10)).setCell ⟨w.heap.size,0,none⟩ (.int .i64 0)).setCell ⟨w.heap.size,1,none⟩ (.int .i64 0)).setCell ⟨w.heap.size,2,none⟩ (.string ⟨#[]⟩)).setCell ⟨w.heap.size,3,none⟩ (.slice none 0 0))=w10 at *
     have e0:=HF9b.c0
     have e1:=HF9b.c1
     have e2:=HF9b.c2
     have e3:=HF9b.c3
     (try simp only [Exit.inBlock,Exit.then])
     refine bodyPost_ret (v:=.agg #[.int .i64 0,.int .i64 0,.string ⟨#[]⟩,.slice none 0 0]) ?_ rfl ?_
     ·rw [results_cell_one rfl]; go_simp
     ·rw [HX.out]
      exact⟨_,rfl,⟨zeroV,zeroV_at _ _,fun h=>by cases h⟩,HR9.out.kept hgf (by have:=HR9.out.lt; have:=HRLT.out; simp; omega),grown_fresh HG9.out hgf (Nat.le_refl _)⟩
    ·have hl2:(at2:Int)+(N:Int)≤(s.size:Int):=by omega
     have hl3:(at2:Int)≤(at2:Int)+(N:Int):=by omega
     have HX:Hid (x=⟨.mk 2 0 (s.extract at2 (at2+N)) [],true,at2+N,m,0⟩):=Lib.hid (by rw [HST.out,HA3.out hlong])
     clear HA3 HE3 hlong HST
     go_wp2_with fail
     go_quiet (fail)
     go_wp2_with fail
     clear d0 d1
     have HF8:Hid (Four (w7.drewN nq) w.heap.size 70 (.int .i64 0) (.int .i64 0) (.string ⟨#[]⟩) (.slice none 0 0)):=Lib.hid (HF7.out.drewN nq)
     have HR8:=Lib.hid (HR7.out.drewN nq)
     have HG8:Hid (w.grownBy (w7.drewN nq) (some r)):=Lib.hid (grown_drewN HG7.out _)
     clear HF7 HR7 HG7
     generalize w7.drewN nq=w8 at *
     have d0:=HR8.out.c0
     have d1:=HR8.out.c1
     have k1:=HR8.out.free 1 (by decide)
     have hr9:=HR8.out.alloc (.cells #[.int .i64 0,.int .i64 0,.string ⟨#[]⟩,.slice none 0 0] 70)
     have l0:=hr9.c0
     have l1:=hr9.c1
     clear hr9
     go_region
     have hg9:∀ row,w8.grownBy (w8.alloc (.cells #[.int .i64 2,.int .i64 0,.string (s.extract at2 (at2+N)),.slice none 0 0] 70)).drew row:=by
      intro row
      have h:=World.grownBy_alloc w8 (.cells #[.int .i64 2,.int .i64 0,.string (s.extract at2 (at2+N)),.slice none 0 0] 70) row
      exact⟨h.os,h.tape,h.output,h.size,h.block⟩
     have HB9:Hid (Four (w8.alloc (.cells #[.int .i64 2,.int .i64 0,.string (s.extract at2 (at2+N)),.slice none 0 0] 70)).drew w8.heap.size 70 (.int .i64 2) (.int .i64 0) (.string (s.extract at2 (at2+N))) (.slice none 0 0)):=Lib.hid (Four.new w8 _ _ _ _ _)
     clear d0 d1 k1 l0 l1
     generalize (w8.alloc (.cells #[.int .i64 2,.int .i64 0,.string (s.extract at2 (at2+N)),.slice none 0 0] 70)).drew=w9 at *
     have HF9:=Lib.hid (HF8.out.kept (hg9 none) (by simp))
     have hr9:=HR8.out.kept (hg9 none) (by simp)
     have HG9:=Lib.hid (grown_trans HG8.out (hg9 (some r)))
     have d0:=hr9.c0
     have d1:=hr9.c1
     have k1:=hr9.free 1 (by decide)
     have HR9:=Lib.hid hr9
     have hb8:w8.heap.size≠r:=by have:=HR8.out.lt; omega
     have hb9:w.heap.size≠w8.heap.size:=by have:=lt_of_block HF8.out; omega
     have hbr:w.heap.size≠r:=by have:=HRLT.out; omega
     clear hr9 hg9 HF8 HR8 HG8
     have HF:=Lib.hid (HF9.out.kept (grown_setCell w9 r 1 (.int .i64 ((at2:Int)+(N:Int)))) (by simp; omega))
     have HR:Hid (RdAt (w9.setCell ⟨r,1,none⟩ (.int .i64 ((at2:Int)+(N:Int)))) r s ((at2+N:Nat):Int) m 0):=Lib.hid (by rw [Int.natCast_add]; exact HR9.out.setAt _)
     have HG:=Lib.hid (grown_trans HG9.out (grown_setCell w9 r 1 (.int .i64 ((at2:Int)+(N:Int)))))
     have HBN:=Lib.hid (HB9.out.kept (grown_setCell w9 r 1 (.int .i64 ((at2:Int)+(N:Int)))) (by simp; omega))
     have p0:=HBN.out.c0
     have p1:=HBN.out.c1
     have p2:=HBN.out.c2
     have p3:=HBN.out.c3
     clear HF9 HR9 HG9 HB9
     (try simp only [Exit.then])
     have b0:=HF.out.c0
     have b1:=HF.out.c1
     have b2:=HF.out.c2
     have b3:=HF.out.c3
     have g0:=HF.out.free 0
     have g1:=HF.out.free 1
     have g2:=HF.out.free 2
     have g3:=HF.out.free 3
     go_wp2_with fail
     have HF9:=HF.out.all (.int .i64 2) (.int .i64 0) (.string (s.extract at2 (at2+N))) (.slice none 0 0)
     have hgf:=grown_four (w9.setCell ⟨r,1,none⟩ (.int .i64 ((at2:Int)+(N:Int)))) w.heap.size (.int .i64 2) (.int .i64 0) (.string (s.extract at2 (at2+N))) (.slice none 0 0)
     clear b0 b1 b2 b3 g0 g1 g2 g3 d0 d1 k1 p0 p1 p2 p3
     generalize (((((w9.setCell ⟨r,1,none⟩ (.int .i64 ((at2:Int)+(N:Int)))).setCell ⟨w.heap.size,0,none⟩ (.int .i64 2)).setCell ⟨w.heap.size,1,none⟩ (.int .i64 0)).setCell ⟨w.heap.size,2,none⟩ (.string (s.extract at2 (at2+N)))).setCell ⟨w.heap.size,3,none⟩ (.slice none 0 0))=w10 at *
     have e0:=HF9.c0
     have e1:=HF9.c1
     have e2:=HF9.c2
     have e3:=HF9.c3
     (try simp only [Exit.inBlock,Exit.then])
     refine bodyPost_ret (v:=.agg #[.int .i64 2,.int .i64 0,.string (s.extract at2 (at2+N)),.slice none 0 0]) ?_ rfl ?_
     ·rw [results_cell_one rfl]; go_simp
     ·rw [HX.out]
      exact⟨_,rfl,⟨_,textV_at _ _ _,fun _=>rfl⟩,HR.out.kept hgf (by have:=HR.out.lt; have:=HRLT.out; simp; omega),grown_fresh HG.out hgf (Nat.le_refl _)⟩
  | false =>
    have hb2:=HMN.out.2 (by simp)
    have q1:(bad2 != 0)=true:=by simpa using hb2
    have q2:(bad2==0)=false:=by simpa using hb2
    have HX:Hid (x=Rd.no at2 m bad2):=Lib.hid (by rw [HST.out,HB2.out (by simp)])
    clear HST HMO HMN HMA HA2 HB2 HE2 hb2
    have b0:=HF6.out.c0
    have b1:=HF6.out.c1
    have b2:=HF6.out.c2
    have b3:=HF6.out.c3
    have g0:=HF6.out.free 0
    have g1:=HF6.out.free 1
    have g2:=HF6.out.free 2
    have g3:=HF6.out.free 3
    go_wp2_with fail
    have HF9:=HF6.out.all (.int .i64 0) (.int .i64 0) (.string ⟨#[]⟩) (.slice none 0 0)
    have hgf:=grown_four w6 w.heap.size (.int .i64 0) (.int .i64 0) (.string ⟨#[]⟩) (.slice none 0 0)
    clear b0 b1 b2 b3 g0 g1 g2 g3 d3
    generalize ((((w6.setCell ⟨w.heap.size,0,none⟩ (.int .i64 0)).setCell ⟨w.heap.size,1,none⟩ (.int .i64 0)).setCell ⟨w.heap.size,2,none⟩ (.string ⟨#[]⟩)).setCell ⟨w.heap.size,3,none⟩ (.slice none 0 0))=w10 at *
    have e0:=HF9.c0
    have e1:=HF9.c1
    have e2:=HF9.c2
    have e3:=HF9.c3
    (try simp only [Exit.inBlock,Exit.then])
    refine bodyPost_ret (v:=.agg #[.int .i64 0,.int .i64 0,.string ⟨#[]⟩,.slice none 0 0]) ?_ rfl ?_
    ·rw [results_cell_one rfl]; go_simp
    ·rw [HX.out]
     exact⟨_,rfl,⟨zeroV,zeroV_at _ _,fun h=>by cases h⟩,HR6.out.kept hgf (by have:=HR6.out.lt; have:=HRLT.out; simp; omega),grown_fresh HG6.out hgf (Nat.le_refl _)⟩
 ·have hb1:=HNO.out.2 hy
  have q1:(bad1 != 0)=true:=by simpa using hb1
  have q2:(bad1==0)=false:=by simpa using hb1
  have HTK:=Lib.hid (take_bad r s (at1:Int) m bad1 58 w5 HR5.out hb1)
  have d3:=HR5.out.c3
  have HX:Hid (x=Rd.no at1 m bad1):=Lib.hid (by rw [HST.out,HC.out hy])
  clear HST HOK HNO hb1 hy HT HA HB HC HE
  go_wp2_with fail
  refine HTK.out.mono ?_
  rintro e w6 ⟨rfl,rfl⟩
  clear HTK
  have b0:=HF5.out.c0
  have b1:=HF5.out.c1
  have b2:=HF5.out.c2
  have b3:=HF5.out.c3
  have g0:=HF5.out.free 0
  have g1:=HF5.out.free 1
  have g2:=HF5.out.free 2
  have g3:=HF5.out.free 3
  go_wp2_with fail
  have HF9:=HF5.out.all (.int .i64 0) (.int .i64 0) (.string ⟨#[]⟩) (.slice none 0 0)
  have hgf:=grown_four w6 w.heap.size (.int .i64 0) (.int .i64 0) (.string ⟨#[]⟩) (.slice none 0 0)
  clear b0 b1 b2 b3 g0 g1 g2 g3 d3
  generalize ((((w6.setCell ⟨w.heap.size,0,none⟩ (.int .i64 0)).setCell ⟨w.heap.size,1,none⟩ (.int .i64 0)).setCell ⟨w.heap.size,2,none⟩ (.string ⟨#[]⟩)).setCell ⟨w.heap.size,3,none⟩ (.slice none 0 0))=w10 at *
  have e0:=HF9.c0
  have e1:=HF9.c1
  have e2:=HF9.c2
  have e3:=HF9.c3
  (try simp only [Exit.inBlock,Exit.then])
  refine bodyPost_ret (v:=.agg #[.int .i64 0,.int .i64 0,.string ⟨#[]⟩,.slice none 0 0]) ?_ rfl ?_
  ·rw [results_cell_one rfl]; go_simp
  ·rw [HX.out]
   exact⟨_,rfl,⟨zeroV,zeroV_at _ _,fun h=>by cases h⟩,HR5.out.kept hgf (by have:=HR5.out.lt; have:=HRLT.out; simp; omega),grown_fresh HG5.out hgf (Nat.le_refl _)⟩
end Go.Proofs.YtlpgbmaoenncjaaGreatDoor

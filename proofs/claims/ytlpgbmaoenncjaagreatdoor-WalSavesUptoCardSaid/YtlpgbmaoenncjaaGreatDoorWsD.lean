/-
  The walk of the reference's call: a call on a disk; where it is refused the disk stays.
-/
import Derived.Test.YtlpgbmaoenncjaaGreatDoorWsT
import Derived.Test.YtlpgbmaoenncjaaGreatDoorDkFive
namespace Go.Proofs.YtlpgbmaoenncjaaGreatDoor
open Go.RowKit
set_option linter.unusedVariables false
set_option maxRecDepth 100000
theorem RetDk.store {w w1:World}{d e:Dk}{a ae:Option Addr}{n c ne ce b:Nat}{x:Int}(hd:DkAt w1 a n c d) (hB:Below w.heap.size w w1) (ho:DkBox w1 b e ae ne ce) (hb:w.heap.size≤b) :
 RetDk w (d,x) (.returned (.tuple #[.agg #[.int .i64 d.room,.slice a n c,.int .i64 d.left,.bool d.down],.int .i64 x])) ((((w1.setCell ⟨b,0,none⟩ (.int .i64 d.room)).setCell ⟨b,1,none⟩ (.slice a n c)).setCell ⟨b,2,none⟩ (.int .i64 d.left)).setCell ⟨b,3,none⟩ (.bool d.down)) :=
 RetDk.mk (hd.setD ho _ _ _ _) (four_sets hB hb _ _ _ _)
set_option maxHeartbeats 1000000 in
theorem rcall_any (a:Option Addr) (n c:Nat) (d:Dk) (what:Int) (nm more:ByteArray) (w:World) (h:DkAt w a n c d) (hw:1≤what∧what≤4) (hs:nm.size≤maxLen) (hs2:more.size≤2097152)
 (HC:Hid (∀ (a:Option Addr) (n c:Nat) (d:Dk) (what:Int) (nm more:ByteArray) (W:World),DkAt W a n c d→1≤what∧what≤4→nm.size≤maxLen→more.size≤2097152→Calls Tryz.prog 111 #[d.val a n c,.int .i64 what,.string nm,.string more] W (RetDk W (callK d what nm more)))) :
 Calls Tryz.prog 62 #[d.val a n c,.int .i64 what,.string nm,.string more] w (RetDk w (callS d what nm more)):=by
 have HA:=Lib.hid (two_below w d a n c)
 have HB:=Lib.hid (two_box w d a n c)
 have HO:=Lib.hid (two_out w d a n c)
 have H:=Lib.hid h
 have hcall:=Lib.hid (HC.out a n c d what nm more _ (h.keep (two_below w d a n c)) hw hs hs2)
 obtain⟨r,hr⟩:∃ r,r=callS d what nm more:=⟨_,rfl⟩
 rw [← hr]
 unfold callS at hr
 generalize callK d what nm more=X at *
 have HR:=Lib.hid hr
 clear h hw hs hs2 hr HC
 unfold twoW at *
 obtain⟨rm,fl,lf,dn⟩:=d
 unfold Dk.val at *
 dsimp only at *
 go_enter Tryz.func62,Tryz.ntmps62
 go_wp2_with fail
 refine hcall.out.mono ?_
 rintro e w1 ⟨a1,n1,c1,rfl,hd1,hb1⟩
 obtain⟨⟨xr,xf,xl,xd⟩,x⟩:=X
 unfold Dk.val
 dsimp only at *
 have HA1:=Lib.hid (below_then HA.out hb1 HA.out.size)
 have HB1:=Lib.hid (DkBox.keep HB.out hb1)
 have HO1:=Lib.hid (DkBox.keep (d:=Dk.zero) (a:=none) (n:=0) (c:=0) HO.out hb1)
 have hb2:Below w1.heap.size w1 (w1.alloc (.cells #[.int .i64 xr,.slice a1 n1 c1,.int .i64 xl,.bool xd] 38)):=(Below.refl _ w1).alloc (Nat.le_refl _) _
 have HA2:=Lib.hid (below_then HA1.out hb2 HA1.out.size)
 have HB2:=Lib.hid (HB1.out.keep hb2)
 have HO2:=Lib.hid (HO1.out.keep hb2)
 have HX2:Hid (DkBox (w1.alloc (.cells #[.int .i64 xr,.slice a1 n1 c1,.int .i64 xl,.bool xd] 38)) w1.heap.size ⟨xr,xf,xl,xd⟩ a1 n1 c1):=Lib.hid (DkBox.new w1 ⟨xr,xf,xl,xd⟩ a1 n1 c1)
 have HD2:=Lib.hid (hd1.keep hb2)
 have HE2:=Lib.hid (H.out.keep HA2.out)
 clear HA HB HO HA1 HB1 HO1 hb1 hb2 hd1 hcall
 go_upto_region 2 with fail
 generalize w1.alloc (.cells #[.int .i64 xr,.slice a1 n1 c1,.int .i64 xl,.bool xd] 38)=w2 at *
 generalize w1.heap.size=sb at *
 have q0:=HB2.out.c0; have q1:=HB2.out.c1; have q2:=HB2.out.c2; have q3:=HB2.out.c3
 have z0:=HX2.out.c0; have z1:=HX2.out.c1; have z2:=HX2.out.c2; have z3:=HX2.out.c3
 have o0:=HO2.out.c0; have o1:=HO2.out.c1; have o2:=HO2.out.c2; have o3:=HO2.out.c3
 have g0:=HO2.out.free 0; have g1:=HO2.out.free 1; have g2:=HO2.out.free 2; have g3:=HO2.out.free 3
 dsimp only at q0 q1 q2 q3 z0 z1 z2 z3
 by_cases h0:x=0
 ·subst h0
  have hr:r=(⟨xr,xf,xl,xd⟩,0):=by rw [HR.out,if_pos (by simp)]
  clear HR
  go_wp2_with fail
  refine bodyPost_ret (v:=.tuple #[.agg #[.int .i64 xr,.slice a1 n1 c1,.int .i64 xl,.bool xd],.int .i64 0]) ?_ rfl ?_
  ·rw [results_cell_tmp rfl]; go_simp
  ·rw [hr]; exact RetDk.store HD2.out HA2.out HO2.out (by omega)
 ·by_cases h1:x=132
  ·subst h1
   have hr:r=(⟨xr,xf,xl,xd⟩,132):=by rw [HR.out,if_pos (by simp)]
   clear HR h0
   go_wp2_with fail
   refine bodyPost_ret (v:=.tuple #[.agg #[.int .i64 xr,.slice a1 n1 c1,.int .i64 xl,.bool xd],.int .i64 132]) ?_ rfl ?_
   ·rw [results_cell_tmp rfl]; go_simp
   ·rw [hr]; exact RetDk.store HD2.out HA2.out HO2.out (by omega)
  ·have hr:r=(⟨rm,fl,lf,dn⟩,x):=by rw [HR.out,if_neg (by simp [h0,h1])]
   have p0:(x==0)=false:=by simpa using h0
   have p1:(x==132)=false:=by simpa using h1
   clear HR h0 h1
   go_wp2_with fail
   refine bodyPost_ret (v:=.tuple #[.agg #[.int .i64 rm,.slice a n c,.int .i64 lf,.bool dn],.int .i64 x]) ?_ rfl ?_
   ·rw [results_cell_tmp rfl]; go_simp
   ·rw [hr]; exact RetDk.store HE2.out HA2.out HO2.out (by omega)
end Go.Proofs.YtlpgbmaoenncjaaGreatDoor

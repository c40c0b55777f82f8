/-
  The reference's Call, first part: its boxes; what it says of a disk, a name that may not be, a disk without power.
  The reference's Call of what may not be: refused. (Written by wip/mkcall.py.)
  The reference's Call of what may be, what = 1, 2, 3, 4. (Written by wip/mkcall2.py.)
  The reference's Call, whole. (Its arms: XDkCb, XDkCc.)
-/
import Derived.Test.YtlpgbmaoenncjaaGreatDoorDkFour
import Derived.Deep.RegionWith
import Derived.Deep.DeepCutAuto
import Derived.Deep.CutBlock
namespace Go.Proofs.YtlpgbmaoenncjaaGreatDoor
open Go.RowKit Go.BigFrame
set_option linter.unusedVariables false
set_option maxRecDepth 100000
theorem Three.kept {w w':World}{b:Nat}{v0 v1 v2:Value}(h:Three w b v0 v1 v2) {row:Option Nat}(hg:w.grownBy w' row) (hr:some b≠row):Three w' b v0 v1 v2:=(hg.block b (lt_of_block h) hr).trans h
theorem Three.keep {w w':World}{b:Nat}{v0 v1 v2:Value}(h:Three w b v0 v1 v2) (hb:Below w.heap.size w w'):Three w' b v0 v1 v2:=(hb.block b (lt_of_block h)).trans h
theorem Three.alloc {w:World}{b:Nat}{v0 v1 v2:Value}(h:Three w b v0 v1 v2) (o:Obj):Three (w.alloc o) b v0 v1 v2:=(Below.heap_alloc w o b (lt_of_block h)).trans h
theorem Three.set1 {w:World}{b:Nat}{v0 v1 v2:Value}(h:Three w b v0 v1 v2) (u:Value):Three (w.setCell ⟨b,1,none⟩ u) b v0 u v2:=by
 have h':w.heap[b]? = _:=h
 show (w.setCell _ u).heap[b]? = _
 simp [World.setCell,Array.getElem?_modify,h']
theorem Three.set2 {w:World}{b:Nat}{v0 v1 v2:Value}(h:Three w b v0 v1 v2) (u:Value):Three (w.setCell ⟨b,2,none⟩ u) b v0 v1 u:=by
 have h':w.heap[b]? = _:=h
 show (w.setCell _ u).heap[b]? = _
 simp [World.setCell,Array.getElem?_modify,h']
theorem Four.setT {w:World}{B F o:Nat}{t:TypeId}{v0 v1 v2 v3:Value}(h:Four w B t v0 v1 v2 v3) (hne:B≠F) (u:Value):Four (w.setCell ⟨F,o,none⟩ u) B t v0 v1 v2 v3:=h.kept (grown_setCell w F o u) (fun e=>hne (Option.some.inj e))
theorem Three.setT {w:World}{B F o:Nat}{v0 v1 v2:Value}(h:Three w B v0 v1 v2) (hne:B≠F) (u:Value):Three (w.setCell ⟨F,o,none⟩ u) B v0 v1 v2:=h.kept (grown_setCell w F o u) (fun e=>hne (Option.some.inj e))
theorem fileOf_nm (l:List Fl) (nm:ByteArray):(fileOf l nm).nm=nm:=by
 by_cases h:atL l nm<0
 ·rw [(atL_no h).2.1]
 ·obtain⟨k,hk,_,h2,h3⟩:=atL_lt h
  rw [h3]; exact h2
theorem fileOf_eta (l:List Fl) (nm:ByteArray):∃ x1 x2,fileOf l nm=⟨nm,x1,x2⟩:=by
 have h:=fileOf_nm l nm
 revert h
 generalize fileOf l nm=f
 obtain⟨a,b,c⟩:=f
 intro h
 exact⟨b,c,by rw [show a=nm from h]⟩
theorem fileOf_size (l:List Fl) (nm:ByteArray):(fileOf l nm).sy.size+(fileOf l nm).ta.size≤szS l:=by
 by_cases h:atL l nm<0
 ·rw [(atL_no h).2.1]; exact Nat.zero_le _
 ·obtain⟨k,hk,_,h2,h3⟩:=atL_lt h
  rw [h3]
  have:=szS_split hk
  omega
def callW (w:World) (d:Dk) (a:Option Addr) (n c:Nat):World:=((w.alloc (.cells #[.int .i64 d.room,.slice a n c,.int .i64 d.left,.bool d.down] 38)).alloc (.cells #[.int .i64 0,.slice none 0 0,.int .i64 0,.bool false] 38)).alloc (.cells #[.int .i64 0,.slice none 0 0,.int .i64 0,.bool false] 38)
theorem call_size (w:World) (d:Dk) (a:Option Addr) (n c:Nat):(callW w d a n c).heap.size=w.heap.size+3:=by unfold callW; simp
theorem call_below (w:World) (d:Dk) (a:Option Addr) (n c:Nat):Below w.heap.size w (callW w d a n c):=(two_below w d a n c).alloc (two_below w d a n c).size _
theorem call_box (w:World) (d:Dk) (a:Option Addr) (n c:Nat):DkBox (callW w d a n c) w.heap.size d a n c:=(two_box w d a n c).alloc _
theorem call_out (w:World) (d:Dk) (a:Option Addr) (n c:Nat):outBox (callW w d a n c) (w.heap.size+1):=(two_out w d a n c).alloc _
theorem call_none (w:World) (d:Dk) (a:Option Addr) (n c:Nat):outBox (callW w d a n c) (w.heap.size+2):=by
 have h:=Four.new (twoW w d a n c) 38 (.int .i64 0) (.slice none 0 0) (.int .i64 0) (.bool false)
 have hz:(twoW w d a n c).heap.size=w.heap.size+2:=by unfold twoW; simp
 rw [hz] at h
 exact h
def callD (d:Dk) (what:Int) (nm more:ByteArray):Dk × Int :=
 if what=1 then writeD d nm more else if what=2 then syncD d nm else if what=3 then renameD d nm more else removeD d nm
theorem DkAt.relab {w:World}{a:Option Addr}{n c:Nat}{d:Dk}(h:DkAt w a n c d) (left:Int) (dn:Bool) (hl:-9223372036854775808≤left∧left≤9223372036854775807):DkAt w a n c ⟨d.room,d.files,left,dn⟩ :=
 ⟨h.sl,h.nc,h.cm,h.cn,h.nb,h.small,h.rw,hl⟩
theorem call_end {w W:World}{a:Option Addr}{n c ob:Nat}{d:Dk}{r:Dk × Int}{x:Int}{u:Value}(hr:r=(d,x)) (hB:Below w.heap.size w W) (hd:DkAt W a n c d) (hx:∀ p,a=some p→p.block≠w.heap.size+1∧p.block≠ob) (hob:w.heap.size≤ob) (u0 u1 u2 u3:Value) :
 RetDk w r (.returned (.tuple #[.agg #[.int .i64 d.room,.slice a n c,.int .i64 d.left,.bool d.down],.int .i64 x])) (((((W.setCell ⟨ob,1,none⟩ u).setCell ⟨w.heap.size+1,0,none⟩ u0).setCell ⟨w.heap.size+1,1,none⟩ u1).setCell ⟨w.heap.size+1,2,none⟩ u2).setCell ⟨w.heap.size+1,3,none⟩ u3):=by
 subst hr
 exact⟨a,n,c,rfl,(hd.set (fun p hp=>(hx p hp).2) u).sets (fun p hp=>(hx p hp).1) _ _ _ _,four_sets (hB.setCell hob u) (by omega) _ _ _ _⟩
theorem call_end1 {w W:World}{a:Option Addr}{n c:Nat}{d:Dk}{r:Dk × Int}{x:Int}(hr:r=(d,x)) (hB:Below w.heap.size w W) (hd:DkAt W a n c d) (hx:∀ p,a=some p→p.block≠w.heap.size+1) (u0 u1 u2 u3:Value) :
 RetDk w r (.returned (.tuple #[.agg #[.int .i64 d.room,.slice a n c,.int .i64 d.left,.bool d.down],.int .i64 x])) ((((W.setCell ⟨w.heap.size+1,0,none⟩ u0).setCell ⟨w.heap.size+1,1,none⟩ u1).setCell ⟨w.heap.size+1,2,none⟩ u2).setCell ⟨w.heap.size+1,3,none⟩ u3):=by
 subst hr
 exact⟨a,n,c,rfl,hd.sets hx _ _ _ _,four_sets hB (by omega) _ _ _ _⟩
theorem call_end0 {w W:World}{a:Option Addr}{n c:Nat}{d:Dk}{r:Dk × Int}{x left:Int}{dn:Bool}(hr:r=(⟨d.room,d.files,left,dn⟩,x)) (hB:Below w.heap.size w W) (hd:DkAt w a n c d) (hl:-9223372036854775808≤left∧left≤9223372036854775807) (u0 u1 u2 u3:Value) :
 RetDk w r (.returned (.tuple #[.agg #[.int .i64 d.room,.slice a n c,.int .i64 left,.bool dn],.int .i64 x])) ((((W.setCell ⟨w.heap.size+1,0,none⟩ u0).setCell ⟨w.heap.size+1,1,none⟩ u1).setCell ⟨w.heap.size+1,2,none⟩ u2).setCell ⟨w.heap.size+1,3,none⟩ u3):=by
 subst hr
 have hb:=four_sets hB (b:=w.heap.size+1) (by omega) u0 u1 u2 u3
 exact⟨a,n,c,rfl,(hd.keep hb).relab left dn hl,hb⟩
end Go.Proofs.YtlpgbmaoenncjaaGreatDoor

namespace Go.Proofs.YtlpgbmaoenncjaaGreatDoor
open Go.RowKit Go.BigFrame
set_option linter.unusedVariables false
set_option maxRecDepth 100000
set_option maxRecDepth 100000 in
set_option maxHeartbeats 1000000 in
theorem call1_wrong (a:Option Addr) (n c:Nat) (d:Dk) (nm more:ByteArray) (w:World) (h:DkAt w a n c d) (hs:nm.size≤maxLen) (hs2:more.size≤maxLen) (hr:rightD d=false) :
 Calls Tryz.prog 111 #[d.val a n c,.int .i64 1,.string nm,.string more] w (RetDk w (Dk.zero,1)):=by
 have hmf:∀ fn first cap w,(Instr.makeFunc fn first cap).run Tryz.prog w = .ok (.func fn first cap) w:=fun _ _ _ _=>rfl
 have HB0:=Lib.hid (call_below w d a n c)
 have HP0:=Lib.hid (call_box w d a n c)
 have HO0:=Lib.hid (call_out w d a n c)
 have HN0:=Lib.hid (call_none w d a n c)
 have HZ:=Lib.hid (call_size w d a n c)
 have hrt:=Lib.hid (fun (W:World) (hb:Below w.heap.size w W)=>refRight_any a n c d W (h.keep hb) false (Lib.hid hr.symm))
 have H:=Lib.hid h
 clear h hr
 unfold callW at *
 obtain⟨rm,l,lf,dn⟩:=d
 unfold Dk.val at *
 dsimp only at *
 go_enter Tryz.func111,Tryz.ntmps111
 go_wp2_with fail
 refine (hrt.out _ HB0.out).mono ?_
 rintro e w1 ⟨rfl,hb1⟩
 have HB1:=Lib.hid (below_then HB0.out hb1 HB0.out.size)
 have HP1:=Lib.hid (Four.keep HP0.out hb1)
 have HO1:=Lib.hid (Four.keep HO0.out hb1)
 have HN1:=Lib.hid (Four.keep HN0.out hb1)
 have hz1:w.heap.size+3≤w1.heap.size:=by have h1:=hb1.size; rw [HZ.out] at h1; exact h1
 have HZ1:=Lib.hid hz1
 clear hb1 HB0 HP0 HO0 HN0 hrt HZ hz1
 have p:=HP1.out; have q:=HN1.out; have o:=HO1.out
 have p0:=p.c0; have p1:=p.c1; have p2:=p.c2; have p3:=p.c3
 have q0:=q.c0; have q1:=q.c1; have q2:=q.c2; have q3:=q.c3
 have e0:=o.c0; have e1:=o.c1; have e2:=o.c2; have e3:=o.c3
 have g0:=o.free 0; have g1:=o.free 1; have g2:=o.free 2; have g3:=o.free 3
 clear p q o
 go_wp2_with fail
 refine bodyPost_ret (v:=.tuple #[.agg #[.int .i64 0,.slice none 0 0,.int .i64 0,.bool false],.int .i64 1]) ?_ rfl ?_
 ·rw [results_cell_tmp rfl]; go_simp
 ·exact RetDk.zero4 1 _ HB1.out (by omega)
set_option maxRecDepth 100000 in
set_option maxHeartbeats 1000000 in
theorem call1_name (a:Option Addr) (n c:Nat) (d:Dk) (nm more:ByteArray) (w:World) (h:DkAt w a n c d) (hs:nm.size≤maxLen) (hs2:more.size≤maxLen) (hr:rightD d=true) (hn:nmOk nm=false) :
 Calls Tryz.prog 111 #[d.val a n c,.int .i64 1,.string nm,.string more] w (RetDk w (Dk.zero,1)):=by
 have hmf:∀ fn first cap w,(Instr.makeFunc fn first cap).run Tryz.prog w = .ok (.func fn first cap) w:=fun _ _ _ _=>rfl
 have HB0:=Lib.hid (call_below w d a n c)
 have HP0:=Lib.hid (call_box w d a n c)
 have HO0:=Lib.hid (call_out w d a n c)
 have HN0:=Lib.hid (call_none w d a n c)
 have HZ:=Lib.hid (call_size w d a n c)
 have hrt:=Lib.hid (fun (W:World) (hb:Below w.heap.size w W)=>refRight_any a n c d W (h.keep hb) true (Lib.hid hr.symm))
 have H:=Lib.hid h
 have hnm:=Lib.hid (refName_any nm hs · false (Lib.hid hn.symm))
 clear h hr hn
 unfold callW at *
 obtain⟨rm,l,lf,dn⟩:=d
 unfold Dk.val at *
 dsimp only at *
 go_enter Tryz.func111,Tryz.ntmps111
 go_wp2_with fail
 refine (hrt.out _ HB0.out).mono ?_
 rintro e w1 ⟨rfl,hb1⟩
 have HB1:=Lib.hid (below_then HB0.out hb1 HB0.out.size)
 have HP1:=Lib.hid (Four.keep HP0.out hb1)
 have HO1:=Lib.hid (Four.keep HO0.out hb1)
 have HN1:=Lib.hid (Four.keep HN0.out hb1)
 have hz1:w.heap.size+3≤w1.heap.size:=by have h1:=hb1.size; rw [HZ.out] at h1; exact h1
 have HZ1:=Lib.hid hz1
 clear hb1 HB0 HP0 HO0 HN0 hrt HZ hz1
 go_wp2_with fail
 refine (hnm.out _).mono ?_
 rintro e w2 ⟨rfl,rfl⟩
 have p:=HP1.out; have q:=HN1.out; have o:=HO1.out
 have p0:=p.c0; have p1:=p.c1; have p2:=p.c2; have p3:=p.c3
 have q0:=q.c0; have q1:=q.c1; have q2:=q.c2; have q3:=q.c3
 have e0:=o.c0; have e1:=o.c1; have e2:=o.c2; have e3:=o.c3
 have g0:=o.free 0; have g1:=o.free 1; have g2:=o.free 2; have g3:=o.free 3
 clear p q o
 go_wp2_with fail
 refine bodyPost_ret (v:=.tuple #[.agg #[.int .i64 0,.slice none 0 0,.int .i64 0,.bool false],.int .i64 1]) ?_ rfl ?_
 ·rw [results_cell_tmp rfl]; go_simp
 ·exact RetDk.zero4 1 _ HB1.out (by omega)
set_option maxRecDepth 100000 in
set_option maxHeartbeats 1000000 in
theorem call1_down (a:Option Addr) (n c:Nat) (d:Dk) (nm more:ByteArray) (w:World) (h:DkAt w a n c d) (hs:nm.size≤maxLen) (hs2:more.size≤maxLen) (hr:rightD d=true) (hn:nmOk nm=true) (hd:d.down=true) :
 Calls Tryz.prog 111 #[d.val a n c,.int .i64 1,.string nm,.string more] w (RetDk w (Dk.zero,132)):=by
 have hmf:∀ fn first cap w,(Instr.makeFunc fn first cap).run Tryz.prog w = .ok (.func fn first cap) w:=fun _ _ _ _=>rfl
 have HB0:=Lib.hid (call_below w d a n c)
 have HP0:=Lib.hid (call_box w d a n c)
 have HO0:=Lib.hid (call_out w d a n c)
 have HN0:=Lib.hid (call_none w d a n c)
 have HZ:=Lib.hid (call_size w d a n c)
 have hrt:=Lib.hid (fun (W:World) (hb:Below w.heap.size w W)=>refRight_any a n c d W (h.keep hb) true (Lib.hid hr.symm))
 have H:=Lib.hid h
 have hnm:=Lib.hid (refName_any nm hs · true (Lib.hid hn.symm))
 clear h hr hn
 unfold callW at *
 obtain⟨rm,l,lf,dn⟩:=d
 unfold Dk.val at *
 dsimp only at *
 obtain rfl:dn=true:=hd
 go_enter Tryz.func111,Tryz.ntmps111
 go_wp2_with fail
 refine (hrt.out _ HB0.out).mono ?_
 rintro e w1 ⟨rfl,hb1⟩
 have HB1:=Lib.hid (below_then HB0.out hb1 HB0.out.size)
 have HP1:=Lib.hid (Four.keep HP0.out hb1)
 have HO1:=Lib.hid (Four.keep HO0.out hb1)
 have HN1:=Lib.hid (Four.keep HN0.out hb1)
 have hz1:w.heap.size+3≤w1.heap.size:=by have h1:=hb1.size; rw [HZ.out] at h1; exact h1
 have HZ1:=Lib.hid hz1
 clear hb1 HB0 HP0 HO0 HN0 hrt HZ hz1
 go_wp2_with fail
 refine (hnm.out _).mono ?_
 rintro e w2 ⟨rfl,rfl⟩
 have p:=HP1.out; have q:=HN1.out; have o:=HO1.out
 have p0:=p.c0; have p1:=p.c1; have p2:=p.c2; have p3:=p.c3
 have q0:=q.c0; have q1:=q.c1; have q2:=q.c2; have q3:=q.c3
 have e0:=o.c0; have e1:=o.c1; have e2:=o.c2; have e3:=o.c3
 have g0:=o.free 0; have g1:=o.free 1; have g2:=o.free 2; have g3:=o.free 3
 clear p q o
 go_wp2_with fail
 refine bodyPost_ret (v:=.tuple #[.agg #[.int .i64 0,.slice none 0 0,.int .i64 0,.bool false],.int .i64 132]) ?_ rfl ?_
 ·rw [results_cell_tmp rfl]; go_simp
 ·exact RetDk.zero4 132 _ HB1.out (by omega)
set_option maxRecDepth 100000 in
set_option maxHeartbeats 1000000 in
theorem call2_wrong (a:Option Addr) (n c:Nat) (d:Dk) (nm more:ByteArray) (w:World) (h:DkAt w a n c d) (hs:nm.size≤maxLen) (hs2:more.size≤maxLen) (hr:rightD d=false) :
 Calls Tryz.prog 111 #[d.val a n c,.int .i64 2,.string nm,.string more] w (RetDk w (Dk.zero,1)):=by
 have hmf:∀ fn first cap w,(Instr.makeFunc fn first cap).run Tryz.prog w = .ok (.func fn first cap) w:=fun _ _ _ _=>rfl
 have HB0:=Lib.hid (call_below w d a n c)
 have HP0:=Lib.hid (call_box w d a n c)
 have HO0:=Lib.hid (call_out w d a n c)
 have HN0:=Lib.hid (call_none w d a n c)
 have HZ:=Lib.hid (call_size w d a n c)
 have hrt:=Lib.hid (fun (W:World) (hb:Below w.heap.size w W)=>refRight_any a n c d W (h.keep hb) false (Lib.hid hr.symm))
 have H:=Lib.hid h
 clear h hr
 unfold callW at *
 obtain⟨rm,l,lf,dn⟩:=d
 unfold Dk.val at *
 dsimp only at *
 go_enter Tryz.func111,Tryz.ntmps111
 go_wp2_with fail
 refine (hrt.out _ HB0.out).mono ?_
 rintro e w1 ⟨rfl,hb1⟩
 have HB1:=Lib.hid (below_then HB0.out hb1 HB0.out.size)
 have HP1:=Lib.hid (Four.keep HP0.out hb1)
 have HO1:=Lib.hid (Four.keep HO0.out hb1)
 have HN1:=Lib.hid (Four.keep HN0.out hb1)
 have hz1:w.heap.size+3≤w1.heap.size:=by have h1:=hb1.size; rw [HZ.out] at h1; exact h1
 have HZ1:=Lib.hid hz1
 clear hb1 HB0 HP0 HO0 HN0 hrt HZ hz1
 have p:=HP1.out; have q:=HN1.out; have o:=HO1.out
 have p0:=p.c0; have p1:=p.c1; have p2:=p.c2; have p3:=p.c3
 have q0:=q.c0; have q1:=q.c1; have q2:=q.c2; have q3:=q.c3
 have e0:=o.c0; have e1:=o.c1; have e2:=o.c2; have e3:=o.c3
 have g0:=o.free 0; have g1:=o.free 1; have g2:=o.free 2; have g3:=o.free 3
 clear p q o
 go_wp2_with fail
 refine bodyPost_ret (v:=.tuple #[.agg #[.int .i64 0,.slice none 0 0,.int .i64 0,.bool false],.int .i64 1]) ?_ rfl ?_
 ·rw [results_cell_tmp rfl]; go_simp
 ·exact RetDk.zero4 1 _ HB1.out (by omega)
set_option maxRecDepth 100000 in
set_option maxHeartbeats 1000000 in
theorem call2_name (a:Option Addr) (n c:Nat) (d:Dk) (nm more:ByteArray) (w:World) (h:DkAt w a n c d) (hs:nm.size≤maxLen) (hs2:more.size≤maxLen) (hr:rightD d=true) (hn:nmOk nm=false) :
 Calls Tryz.prog 111 #[d.val a n c,.int .i64 2,.string nm,.string more] w (RetDk w (Dk.zero,1)):=by
 have hmf:∀ fn first cap w,(Instr.makeFunc fn first cap).run Tryz.prog w = .ok (.func fn first cap) w:=fun _ _ _ _=>rfl
 have HB0:=Lib.hid (call_below w d a n c)
 have HP0:=Lib.hid (call_box w d a n c)
 have HO0:=Lib.hid (call_out w d a n c)
 have HN0:=Lib.hid (call_none w d a n c)
 have HZ:=Lib.hid (call_size w d a n c)
 have hrt:=Lib.hid (fun (W:World) (hb:Below w.heap.size w W)=>refRight_any a n c d W (h.keep hb) true (Lib.hid hr.symm))
 have H:=Lib.hid h
 have hnm:=Lib.hid (refName_any nm hs · false (Lib.hid hn.symm))
 clear h hr hn
 unfold callW at *
 obtain⟨rm,l,lf,dn⟩:=d
 unfold Dk.val at *
 dsimp only at *
 go_enter Tryz.func111,Tryz.ntmps111
 go_wp2_with fail
 refine (hrt.out _ HB0.out).mono ?_
 rintro e w1 ⟨rfl,hb1⟩
 have HB1:=Lib.hid (below_then HB0.out hb1 HB0.out.size)
 have HP1:=Lib.hid (Four.keep HP0.out hb1)
 have HO1:=Lib.hid (Four.keep HO0.out hb1)
 have HN1:=Lib.hid (Four.keep HN0.out hb1)
 have hz1:w.heap.size+3≤w1.heap.size:=by have h1:=hb1.size; rw [HZ.out] at h1; exact h1
 have HZ1:=Lib.hid hz1
 clear hb1 HB0 HP0 HO0 HN0 hrt HZ hz1
 go_wp2_with fail
 refine (hnm.out _).mono ?_
 rintro e w2 ⟨rfl,rfl⟩
 have p:=HP1.out; have q:=HN1.out; have o:=HO1.out
 have p0:=p.c0; have p1:=p.c1; have p2:=p.c2; have p3:=p.c3
 have q0:=q.c0; have q1:=q.c1; have q2:=q.c2; have q3:=q.c3
 have e0:=o.c0; have e1:=o.c1; have e2:=o.c2; have e3:=o.c3
 have g0:=o.free 0; have g1:=o.free 1; have g2:=o.free 2; have g3:=o.free 3
 clear p q o
 go_wp2_with fail
 refine bodyPost_ret (v:=.tuple #[.agg #[.int .i64 0,.slice none 0 0,.int .i64 0,.bool false],.int .i64 1]) ?_ rfl ?_
 ·rw [results_cell_tmp rfl]; go_simp
 ·exact RetDk.zero4 1 _ HB1.out (by omega)
set_option maxRecDepth 100000 in
set_option maxHeartbeats 1000000 in
theorem call2_down (a:Option Addr) (n c:Nat) (d:Dk) (nm more:ByteArray) (w:World) (h:DkAt w a n c d) (hs:nm.size≤maxLen) (hs2:more.size≤maxLen) (hr:rightD d=true) (hn:nmOk nm=true) (hd:d.down=true) :
 Calls Tryz.prog 111 #[d.val a n c,.int .i64 2,.string nm,.string more] w (RetDk w (Dk.zero,132)):=by
 have hmf:∀ fn first cap w,(Instr.makeFunc fn first cap).run Tryz.prog w = .ok (.func fn first cap) w:=fun _ _ _ _=>rfl
 have HB0:=Lib.hid (call_below w d a n c)
 have HP0:=Lib.hid (call_box w d a n c)
 have HO0:=Lib.hid (call_out w d a n c)
 have HN0:=Lib.hid (call_none w d a n c)
 have HZ:=Lib.hid (call_size w d a n c)
 have hrt:=Lib.hid (fun (W:World) (hb:Below w.heap.size w W)=>refRight_any a n c d W (h.keep hb) true (Lib.hid hr.symm))
 have H:=Lib.hid h
 have hnm:=Lib.hid (refName_any nm hs · true (Lib.hid hn.symm))
 clear h hr hn
 unfold callW at *
 obtain⟨rm,l,lf,dn⟩:=d
 unfold Dk.val at *
 dsimp only at *
 obtain rfl:dn=true:=hd
 go_enter Tryz.func111,Tryz.ntmps111
 go_wp2_with fail
 refine (hrt.out _ HB0.out).mono ?_
 rintro e w1 ⟨rfl,hb1⟩
 have HB1:=Lib.hid (below_then HB0.out hb1 HB0.out.size)
 have HP1:=Lib.hid (Four.keep HP0.out hb1)
 have HO1:=Lib.hid (Four.keep HO0.out hb1)
 have HN1:=Lib.hid (Four.keep HN0.out hb1)
 have hz1:w.heap.size+3≤w1.heap.size:=by have h1:=hb1.size; rw [HZ.out] at h1; exact h1
 have HZ1:=Lib.hid hz1
 clear hb1 HB0 HP0 HO0 HN0 hrt HZ hz1
 go_wp2_with fail
 refine (hnm.out _).mono ?_
 rintro e w2 ⟨rfl,rfl⟩
 have p:=HP1.out; have q:=HN1.out; have o:=HO1.out
 have p0:=p.c0; have p1:=p.c1; have p2:=p.c2; have p3:=p.c3
 have q0:=q.c0; have q1:=q.c1; have q2:=q.c2; have q3:=q.c3
 have e0:=o.c0; have e1:=o.c1; have e2:=o.c2; have e3:=o.c3
 have g0:=o.free 0; have g1:=o.free 1; have g2:=o.free 2; have g3:=o.free 3
 clear p q o
 go_wp2_with fail
 refine bodyPost_ret (v:=.tuple #[.agg #[.int .i64 0,.slice none 0 0,.int .i64 0,.bool false],.int .i64 132]) ?_ rfl ?_
 ·rw [results_cell_tmp rfl]; go_simp
 ·exact RetDk.zero4 132 _ HB1.out (by omega)
set_option maxRecDepth 100000 in
set_option maxHeartbeats 1000000 in
theorem call3_wrong (a:Option Addr) (n c:Nat) (d:Dk) (nm more:ByteArray) (w:World) (h:DkAt w a n c d) (hs:nm.size≤maxLen) (hs2:more.size≤maxLen) (hr:rightD d=false) :
 Calls Tryz.prog 111 #[d.val a n c,.int .i64 3,.string nm,.string more] w (RetDk w (Dk.zero,1)):=by
 have hmf:∀ fn first cap w,(Instr.makeFunc fn first cap).run Tryz.prog w = .ok (.func fn first cap) w:=fun _ _ _ _=>rfl
 have HB0:=Lib.hid (call_below w d a n c)
 have HP0:=Lib.hid (call_box w d a n c)
 have HO0:=Lib.hid (call_out w d a n c)
 have HN0:=Lib.hid (call_none w d a n c)
 have HZ:=Lib.hid (call_size w d a n c)
 have hrt:=Lib.hid (fun (W:World) (hb:Below w.heap.size w W)=>refRight_any a n c d W (h.keep hb) false (Lib.hid hr.symm))
 have H:=Lib.hid h
 clear h hr
 unfold callW at *
 obtain⟨rm,l,lf,dn⟩:=d
 unfold Dk.val at *
 dsimp only at *
 go_enter Tryz.func111,Tryz.ntmps111
 go_wp2_with fail
 refine (hrt.out _ HB0.out).mono ?_
 rintro e w1 ⟨rfl,hb1⟩
 have HB1:=Lib.hid (below_then HB0.out hb1 HB0.out.size)
 have HP1:=Lib.hid (Four.keep HP0.out hb1)
 have HO1:=Lib.hid (Four.keep HO0.out hb1)
 have HN1:=Lib.hid (Four.keep HN0.out hb1)
 have hz1:w.heap.size+3≤w1.heap.size:=by have h1:=hb1.size; rw [HZ.out] at h1; exact h1
 have HZ1:=Lib.hid hz1
 clear hb1 HB0 HP0 HO0 HN0 hrt HZ hz1
 have p:=HP1.out; have q:=HN1.out; have o:=HO1.out
 have p0:=p.c0; have p1:=p.c1; have p2:=p.c2; have p3:=p.c3
 have q0:=q.c0; have q1:=q.c1; have q2:=q.c2; have q3:=q.c3
 have e0:=o.c0; have e1:=o.c1; have e2:=o.c2; have e3:=o.c3
 have g0:=o.free 0; have g1:=o.free 1; have g2:=o.free 2; have g3:=o.free 3
 clear p q o
 go_wp2_with fail
 refine bodyPost_ret (v:=.tuple #[.agg #[.int .i64 0,.slice none 0 0,.int .i64 0,.bool false],.int .i64 1]) ?_ rfl ?_
 ·rw [results_cell_tmp rfl]; go_simp
 ·exact RetDk.zero4 1 _ HB1.out (by omega)
set_option maxRecDepth 100000 in
set_option maxHeartbeats 1000000 in
theorem call3_name (a:Option Addr) (n c:Nat) (d:Dk) (nm more:ByteArray) (w:World) (h:DkAt w a n c d) (hs:nm.size≤maxLen) (hs2:more.size≤maxLen) (hr:rightD d=true) (hn:nmOk nm=false) :
 Calls Tryz.prog 111 #[d.val a n c,.int .i64 3,.string nm,.string more] w (RetDk w (Dk.zero,1)):=by
 have hmf:∀ fn first cap w,(Instr.makeFunc fn first cap).run Tryz.prog w = .ok (.func fn first cap) w:=fun _ _ _ _=>rfl
 have HB0:=Lib.hid (call_below w d a n c)
 have HP0:=Lib.hid (call_box w d a n c)
 have HO0:=Lib.hid (call_out w d a n c)
 have HN0:=Lib.hid (call_none w d a n c)
 have HZ:=Lib.hid (call_size w d a n c)
 have hrt:=Lib.hid (fun (W:World) (hb:Below w.heap.size w W)=>refRight_any a n c d W (h.keep hb) true (Lib.hid hr.symm))
 have H:=Lib.hid h
 have hnm:=Lib.hid (refName_any nm hs · false (Lib.hid hn.symm))
 clear h hr hn
 unfold callW at *
 obtain⟨rm,l,lf,dn⟩:=d
 unfold Dk.val at *
 dsimp only at *
 go_enter Tryz.func111,Tryz.ntmps111
 go_wp2_with fail
 refine (hrt.out _ HB0.out).mono ?_
 rintro e w1 ⟨rfl,hb1⟩
 have HB1:=Lib.hid (below_then HB0.out hb1 HB0.out.size)
 have HP1:=Lib.hid (Four.keep HP0.out hb1)
 have HO1:=Lib.hid (Four.keep HO0.out hb1)
 have HN1:=Lib.hid (Four.keep HN0.out hb1)
 have hz1:w.heap.size+3≤w1.heap.size:=by have h1:=hb1.size; rw [HZ.out] at h1; exact h1
 have HZ1:=Lib.hid hz1
 clear hb1 HB0 HP0 HO0 HN0 hrt HZ hz1
 go_wp2_with fail
 refine (hnm.out _).mono ?_
 rintro e w2 ⟨rfl,rfl⟩
 have p:=HP1.out; have q:=HN1.out; have o:=HO1.out
 have p0:=p.c0; have p1:=p.c1; have p2:=p.c2; have p3:=p.c3
 have q0:=q.c0; have q1:=q.c1; have q2:=q.c2; have q3:=q.c3
 have e0:=o.c0; have e1:=o.c1; have e2:=o.c2; have e3:=o.c3
 have g0:=o.free 0; have g1:=o.free 1; have g2:=o.free 2; have g3:=o.free 3
 clear p q o
 go_wp2_with fail
 refine bodyPost_ret (v:=.tuple #[.agg #[.int .i64 0,.slice none 0 0,.int .i64 0,.bool false],.int .i64 1]) ?_ rfl ?_
 ·rw [results_cell_tmp rfl]; go_simp
 ·exact RetDk.zero4 1 _ HB1.out (by omega)
set_option maxRecDepth 100000 in
set_option maxHeartbeats 1000000 in
theorem call3_more (a:Option Addr) (n c:Nat) (d:Dk) (nm more:ByteArray) (w:World) (h:DkAt w a n c d) (hs:nm.size≤maxLen) (hs2:more.size≤maxLen) (hr:rightD d=true) (hn:nmOk nm=true) (hm:nmOk more=false) :
 Calls Tryz.prog 111 #[d.val a n c,.int .i64 3,.string nm,.string more] w (RetDk w (Dk.zero,1)):=by
 have hmf:∀ fn first cap w,(Instr.makeFunc fn first cap).run Tryz.prog w = .ok (.func fn first cap) w:=fun _ _ _ _=>rfl
 have HB0:=Lib.hid (call_below w d a n c)
 have HP0:=Lib.hid (call_box w d a n c)
 have HO0:=Lib.hid (call_out w d a n c)
 have HN0:=Lib.hid (call_none w d a n c)
 have HZ:=Lib.hid (call_size w d a n c)
 have hrt:=Lib.hid (fun (W:World) (hb:Below w.heap.size w W)=>refRight_any a n c d W (h.keep hb) true (Lib.hid hr.symm))
 have H:=Lib.hid h
 have hnm:=Lib.hid (refName_any nm hs · true (Lib.hid hn.symm))
 have hmo:=Lib.hid (refName_any more hs2 · false (Lib.hid hm.symm))
 clear h hr hn hm
 unfold callW at *
 obtain⟨rm,l,lf,dn⟩:=d
 unfold Dk.val at *
 dsimp only at *
 go_enter Tryz.func111,Tryz.ntmps111
 go_wp2_with fail
 refine (hrt.out _ HB0.out).mono ?_
 rintro e w1 ⟨rfl,hb1⟩
 have HB1:=Lib.hid (below_then HB0.out hb1 HB0.out.size)
 have HP1:=Lib.hid (Four.keep HP0.out hb1)
 have HO1:=Lib.hid (Four.keep HO0.out hb1)
 have HN1:=Lib.hid (Four.keep HN0.out hb1)
 have hz1:w.heap.size+3≤w1.heap.size:=by have h1:=hb1.size; rw [HZ.out] at h1; exact h1
 have HZ1:=Lib.hid hz1
 clear hb1 HB0 HP0 HO0 HN0 hrt HZ hz1
 go_wp2_with fail
 refine (hnm.out _).mono ?_
 rintro e w2 ⟨rfl,rfl⟩
 go_wp2_with fail
 refine (hmo.out _).mono ?_
 rintro e w2 ⟨rfl,rfl⟩
 have p:=HP1.out; have q:=HN1.out; have o:=HO1.out
 have p0:=p.c0; have p1:=p.c1; have p2:=p.c2; have p3:=p.c3
 have q0:=q.c0; have q1:=q.c1; have q2:=q.c2; have q3:=q.c3
 have e0:=o.c0; have e1:=o.c1; have e2:=o.c2; have e3:=o.c3
 have g0:=o.free 0; have g1:=o.free 1; have g2:=o.free 2; have g3:=o.free 3
 clear p q o
 go_wp2_with fail
 refine bodyPost_ret (v:=.tuple #[.agg #[.int .i64 0,.slice none 0 0,.int .i64 0,.bool false],.int .i64 1]) ?_ rfl ?_
 ·rw [results_cell_tmp rfl]; go_simp
 ·exact RetDk.zero4 1 _ HB1.out (by omega)
set_option maxRecDepth 100000 in
set_option maxHeartbeats 1000000 in
theorem call3_down (a:Option Addr) (n c:Nat) (d:Dk) (nm more:ByteArray) (w:World) (h:DkAt w a n c d) (hs:nm.size≤maxLen) (hs2:more.size≤maxLen) (hr:rightD d=true) (hn:nmOk nm=true) (hm:nmOk more=true) (hd:d.down=true) :
 Calls Tryz.prog 111 #[d.val a n c,.int .i64 3,.string nm,.string more] w (RetDk w (Dk.zero,132)):=by
 have hmf:∀ fn first cap w,(Instr.makeFunc fn first cap).run Tryz.prog w = .ok (.func fn first cap) w:=fun _ _ _ _=>rfl
 have HB0:=Lib.hid (call_below w d a n c)
 have HP0:=Lib.hid (call_box w d a n c)
 have HO0:=Lib.hid (call_out w d a n c)
 have HN0:=Lib.hid (call_none w d a n c)
 have HZ:=Lib.hid (call_size w d a n c)
 have hrt:=Lib.hid (fun (W:World) (hb:Below w.heap.size w W)=>refRight_any a n c d W (h.keep hb) true (Lib.hid hr.symm))
 have H:=Lib.hid h
 have hnm:=Lib.hid (refName_any nm hs · true (Lib.hid hn.symm))
 have hmo:=Lib.hid (refName_any more hs2 · true (Lib.hid hm.symm))
 clear h hr hn hm
 unfold callW at *
 obtain⟨rm,l,lf,dn⟩:=d
 unfold Dk.val at *
 dsimp only at *
 obtain rfl:dn=true:=hd
 go_enter Tryz.func111,Tryz.ntmps111
 go_wp2_with fail
 refine (hrt.out _ HB0.out).mono ?_
 rintro e w1 ⟨rfl,hb1⟩
 have HB1:=Lib.hid (below_then HB0.out hb1 HB0.out.size)
 have HP1:=Lib.hid (Four.keep HP0.out hb1)
 have HO1:=Lib.hid (Four.keep HO0.out hb1)
 have HN1:=Lib.hid (Four.keep HN0.out hb1)
 have hz1:w.heap.size+3≤w1.heap.size:=by have h1:=hb1.size; rw [HZ.out] at h1; exact h1
 have HZ1:=Lib.hid hz1
 clear hb1 HB0 HP0 HO0 HN0 hrt HZ hz1
 go_wp2_with fail
 refine (hnm.out _).mono ?_
 rintro e w2 ⟨rfl,rfl⟩
 go_wp2_with fail
 refine (hmo.out _).mono ?_
 rintro e w2 ⟨rfl,rfl⟩
 have p:=HP1.out; have q:=HN1.out; have o:=HO1.out
 have p0:=p.c0; have p1:=p.c1; have p2:=p.c2; have p3:=p.c3
 have q0:=q.c0; have q1:=q.c1; have q2:=q.c2; have q3:=q.c3
 have e0:=o.c0; have e1:=o.c1; have e2:=o.c2; have e3:=o.c3
 have g0:=o.free 0; have g1:=o.free 1; have g2:=o.free 2; have g3:=o.free 3
 clear p q o
 go_wp2_with fail
 refine bodyPost_ret (v:=.tuple #[.agg #[.int .i64 0,.slice none 0 0,.int .i64 0,.bool false],.int .i64 132]) ?_ rfl ?_
 ·rw [results_cell_tmp rfl]; go_simp
 ·exact RetDk.zero4 132 _ HB1.out (by omega)
set_option maxRecDepth 100000 in
set_option maxHeartbeats 1000000 in
theorem call4_wrong (a:Option Addr) (n c:Nat) (d:Dk) (nm more:ByteArray) (w:World) (h:DkAt w a n c d) (hs:nm.size≤maxLen) (hs2:more.size≤maxLen) (hr:rightD d=false) :
 Calls Tryz.prog 111 #[d.val a n c,.int .i64 4,.string nm,.string more] w (RetDk w (Dk.zero,1)):=by
 have hmf:∀ fn first cap w,(Instr.makeFunc fn first cap).run Tryz.prog w = .ok (.func fn first cap) w:=fun _ _ _ _=>rfl
 have HB0:=Lib.hid (call_below w d a n c)
 have HP0:=Lib.hid (call_box w d a n c)
 have HO0:=Lib.hid (call_out w d a n c)
 have HN0:=Lib.hid (call_none w d a n c)
 have HZ:=Lib.hid (call_size w d a n c)
 have hrt:=Lib.hid (fun (W:World) (hb:Below w.heap.size w W)=>refRight_any a n c d W (h.keep hb) false (Lib.hid hr.symm))
 have H:=Lib.hid h
 clear h hr
 unfold callW at *
 obtain⟨rm,l,lf,dn⟩:=d
 unfold Dk.val at *
 dsimp only at *
 go_enter Tryz.func111,Tryz.ntmps111
 go_wp2_with fail
 refine (hrt.out _ HB0.out).mono ?_
 rintro e w1 ⟨rfl,hb1⟩
 have HB1:=Lib.hid (below_then HB0.out hb1 HB0.out.size)
 have HP1:=Lib.hid (Four.keep HP0.out hb1)
 have HO1:=Lib.hid (Four.keep HO0.out hb1)
 have HN1:=Lib.hid (Four.keep HN0.out hb1)
 have hz1:w.heap.size+3≤w1.heap.size:=by have h1:=hb1.size; rw [HZ.out] at h1; exact h1
 have HZ1:=Lib.hid hz1
 clear hb1 HB0 HP0 HO0 HN0 hrt HZ hz1
 have p:=HP1.out; have q:=HN1.out; have o:=HO1.out
 have p0:=p.c0; have p1:=p.c1; have p2:=p.c2; have p3:=p.c3
 have q0:=q.c0; have q1:=q.c1; have q2:=q.c2; have q3:=q.c3
 have e0:=o.c0; have e1:=o.c1; have e2:=o.c2; have e3:=o.c3
 have g0:=o.free 0; have g1:=o.free 1; have g2:=o.free 2; have g3:=o.free 3
 clear p q o
 go_wp2_with fail
 refine bodyPost_ret (v:=.tuple #[.agg #[.int .i64 0,.slice none 0 0,.int .i64 0,.bool false],.int .i64 1]) ?_ rfl ?_
 ·rw [results_cell_tmp rfl]; go_simp
 ·exact RetDk.zero4 1 _ HB1.out (by omega)
set_option maxRecDepth 100000 in
set_option maxHeartbeats 1000000 in
theorem call4_name (a:Option Addr) (n c:Nat) (d:Dk) (nm more:ByteArray) (w:World) (h:DkAt w a n c d) (hs:nm.size≤maxLen) (hs2:more.size≤maxLen) (hr:rightD d=true) (hn:nmOk nm=false) :
 Calls Tryz.prog 111 #[d.val a n c,.int .i64 4,.string nm,.string more] w (RetDk w (Dk.zero,1)):=by
 have hmf:∀ fn first cap w,(Instr.makeFunc fn first cap).run Tryz.prog w = .ok (.func fn first cap) w:=fun _ _ _ _=>rfl
 have HB0:=Lib.hid (call_below w d a n c)
 have HP0:=Lib.hid (call_box w d a n c)
 have HO0:=Lib.hid (call_out w d a n c)
 have HN0:=Lib.hid (call_none w d a n c)
 have HZ:=Lib.hid (call_size w d a n c)
 have hrt:=Lib.hid (fun (W:World) (hb:Below w.heap.size w W)=>refRight_any a n c d W (h.keep hb) true (Lib.hid hr.symm))
 have H:=Lib.hid h
 have hnm:=Lib.hid (refName_any nm hs · false (Lib.hid hn.symm))
 clear h hr hn
 unfold callW at *
 obtain⟨rm,l,lf,dn⟩:=d
 unfold Dk.val at *
 dsimp only at *
 go_enter Tryz.func111,Tryz.ntmps111
 go_wp2_with fail
 refine (hrt.out _ HB0.out).mono ?_
 rintro e w1 ⟨rfl,hb1⟩
 have HB1:=Lib.hid (below_then HB0.out hb1 HB0.out.size)
 have HP1:=Lib.hid (Four.keep HP0.out hb1)
 have HO1:=Lib.hid (Four.keep HO0.out hb1)
 have HN1:=Lib.hid (Four.keep HN0.out hb1)
 have hz1:w.heap.size+3≤w1.heap.size:=by have h1:=hb1.size; rw [HZ.out] at h1; exact h1
 have HZ1:=Lib.hid hz1
 clear hb1 HB0 HP0 HO0 HN0 hrt HZ hz1
 go_wp2_with fail
 refine (hnm.out _).mono ?_
 rintro e w2 ⟨rfl,rfl⟩
 have p:=HP1.out; have q:=HN1.out; have o:=HO1.out
 have p0:=p.c0; have p1:=p.c1; have p2:=p.c2; have p3:=p.c3
 have q0:=q.c0; have q1:=q.c1; have q2:=q.c2; have q3:=q.c3
 have e0:=o.c0; have e1:=o.c1; have e2:=o.c2; have e3:=o.c3
 have g0:=o.free 0; have g1:=o.free 1; have g2:=o.free 2; have g3:=o.free 3
 clear p q o
 go_wp2_with fail
 refine bodyPost_ret (v:=.tuple #[.agg #[.int .i64 0,.slice none 0 0,.int .i64 0,.bool false],.int .i64 1]) ?_ rfl ?_
 ·rw [results_cell_tmp rfl]; go_simp
 ·exact RetDk.zero4 1 _ HB1.out (by omega)
set_option maxRecDepth 100000 in
set_option maxHeartbeats 1000000 in
theorem call4_down (a:Option Addr) (n c:Nat) (d:Dk) (nm more:ByteArray) (w:World) (h:DkAt w a n c d) (hs:nm.size≤maxLen) (hs2:more.size≤maxLen) (hr:rightD d=true) (hn:nmOk nm=true) (hd:d.down=true) :
 Calls Tryz.prog 111 #[d.val a n c,.int .i64 4,.string nm,.string more] w (RetDk w (Dk.zero,132)):=by
 have hmf:∀ fn first cap w,(Instr.makeFunc fn first cap).run Tryz.prog w = .ok (.func fn first cap) w:=fun _ _ _ _=>rfl
 have HB0:=Lib.hid (call_below w d a n c)
 have HP0:=Lib.hid (call_box w d a n c)
 have HO0:=Lib.hid (call_out w d a n c)
 have HN0:=Lib.hid (call_none w d a n c)
 have HZ:=Lib.hid (call_size w d a n c)
 have hrt:=Lib.hid (fun (W:World) (hb:Below w.heap.size w W)=>refRight_any a n c d W (h.keep hb) true (Lib.hid hr.symm))
 have H:=Lib.hid h
 have hnm:=Lib.hid (refName_any nm hs · true (Lib.hid hn.symm))
 clear h hr hn
 unfold callW at *
 obtain⟨rm,l,lf,dn⟩:=d
 unfold Dk.val at *
 dsimp only at *
 obtain rfl:dn=true:=hd
 go_enter Tryz.func111,Tryz.ntmps111
 go_wp2_with fail
 refine (hrt.out _ HB0.out).mono ?_
 rintro e w1 ⟨rfl,hb1⟩
 have HB1:=Lib.hid (below_then HB0.out hb1 HB0.out.size)
 have HP1:=Lib.hid (Four.keep HP0.out hb1)
 have HO1:=Lib.hid (Four.keep HO0.out hb1)
 have HN1:=Lib.hid (Four.keep HN0.out hb1)
 have hz1:w.heap.size+3≤w1.heap.size:=by have h1:=hb1.size; rw [HZ.out] at h1; exact h1
 have HZ1:=Lib.hid hz1
 clear hb1 HB0 HP0 HO0 HN0 hrt HZ hz1
 go_wp2_with fail
 refine (hnm.out _).mono ?_
 rintro e w2 ⟨rfl,rfl⟩
 have p:=HP1.out; have q:=HN1.out; have o:=HO1.out
 have p0:=p.c0; have p1:=p.c1; have p2:=p.c2; have p3:=p.c3
 have q0:=q.c0; have q1:=q.c1; have q2:=q.c2; have q3:=q.c3
 have e0:=o.c0; have e1:=o.c1; have e2:=o.c2; have e3:=o.c3
 have g0:=o.free 0; have g1:=o.free 1; have g2:=o.free 2; have g3:=o.free 3
 clear p q o
 go_wp2_with fail
 refine bodyPost_ret (v:=.tuple #[.agg #[.int .i64 0,.slice none 0 0,.int .i64 0,.bool false],.int .i64 132]) ?_ rfl ?_
 ·rw [results_cell_tmp rfl]; go_simp
 ·exact RetDk.zero4 132 _ HB1.out (by omega)
end Go.Proofs.YtlpgbmaoenncjaaGreatDoor

namespace Go.Proofs.YtlpgbmaoenncjaaGreatDoor
open Go.RowKit Go.BigFrame
set_option linter.unusedVariables false
set_option maxRecDepth 100000
set_option maxRecDepth 100000 in
set_option maxHeartbeats 4000000 in
theorem call1_go (a:Option Addr) (n c:Nat) (d:Dk) (nm more:ByteArray) (w:World) (h:DkAt w a n c d) (hs:nm.size≤maxLen) (hs2:more.size≤2097152) (hz:readyD d [nm]=0) :
 Calls Tryz.prog 111 #[d.val a n c,.int .i64 1,.string nm,.string more] w (RetDk w (writeD d nm more)):=by
 have hmf:∀ fn first cap w,(Instr.makeFunc fn first cap).run Tryz.prog w = .ok (.func fn first cap) w:=fun _ _ _ _=>rfl
 obtain⟨hR,hN,hD⟩:=ready_parts hz
 have hn8:n≤8:=by have:=(rightD_nums hR).2.1; have:=h.len; omega
 have HNUM:=Lib.hid (rightD_nums hR)
 have HSZR:=Lib.hid (rightD_size hR)
 have HLEN:=Lib.hid h.len
 have HB0:=Lib.hid (call_below w d a n c)
 have HP0:=Lib.hid (call_box w d a n c)
 have HO0:=Lib.hid (call_out w d a n c)
 have HN0:=Lib.hid (call_none w d a n c)
 have HZ:=Lib.hid (call_size w d a n c)
 have hrt:=Lib.hid (fun (W:World) (hb:Below w.heap.size w W)=>refRight_any a n c d W (h.keep hb) true (Lib.hid hR.symm))
 have hnm:=Lib.hid (refName_any nm hs · true (Lib.hid (by have h1:=hN; simp at h1; first | exact h1.symm | exact h1.1.symm)))
 have hm2:more.size≤maxLen:=by unfold maxLen; omega
 obtain⟨k0,hk0⟩:∃ k0,k0=atL d.files nm:=⟨_,rfl⟩
 have hat:=Lib.hid (fun (W:World) (hb:Below w.heap.size w W)=>refAt_any a n c d nm W (h.keep hb) k0 (Lib.hid hk0))
 have H:=Lib.hid h
 have HRT:=Lib.hid hR
 have HZR:=Lib.hid hz
 have HK0:=Lib.hid hk0
 clear h hR hN hz hk0
 unfold callW at *
 obtain⟨rm,l,lf,dn⟩:=d
 unfold Dk.val at *
 dsimp only at *
 obtain rfl:dn=false:=hD
 go_enter Tryz.func111,Tryz.ntmps111
 go_wp2_with fail
 refine (hrt.out _ HB0.out).mono ?_
 rintro e w1 ⟨rfl,hb1⟩
 have HB1:=Lib.hid (below_then HB0.out hb1 HB0.out.size)
 have HP1:=Lib.hid (Four.keep HP0.out hb1)
 have HO1:=Lib.hid (Four.keep HO0.out hb1)
 have HN1:=Lib.hid (Four.keep HN0.out hb1)
 have hz1:w.heap.size+3≤w1.heap.size:=by have h1:=hb1.size; rw [HZ.out] at h1; exact h1
 have HZ1:=Lib.hid hz1
 clear hb1 HB0 HP0 HO0 HN0 hrt HZ hz1
 go_wp2_with fail
 refine (hnm.out _).mono ?_
 rintro e w2 ⟨rfl,rfl⟩
 have p:=HP1.out
 have p0:=p.c0; have p1:=p.c1; have p2:=p.c2; have p3:=p.c3
 clear p
 go_wp2_with fail
 refine (hat.out w1 HB1.out).mono ?_
 rintro e w3 ⟨rfl,hb3⟩
 clear p0 p1 p2 p3 hat hnm
 have HB3:=Lib.hid (below_then HB1.out hb3 HB1.out.size)
 have HP3:=Lib.hid (Four.keep HP1.out hb3)
 have HO3:=Lib.hid (Four.keep HO1.out hb3)
 have HN3:=Lib.hid (Four.keep HN1.out hb3)
 have hz3:w.heap.size+3≤w3.heap.size:=Nat.le_trans HZ1.out hb3.size
 obtain⟨fb,hfb⟩:∃ fb,fb=w3.heap.size:=⟨_,rfl⟩
 have HZF:Hid (w.heap.size+3≤fb):=Lib.hid (by omega)
 have HFB:=Lib.hid hfb
 have HSL3:=Lib.hid (H.out.keep (HB3.out.alloc HB3.out.size (.cells #[.string nm,.string ⟨#[]⟩,.string ⟨#[]⟩] 55))).sl
 clear hb3 HB1 HP1 HO1 HN1 hz3 hfb HZ1
 obtain⟨x1,x2,hfo⟩:=fileOf_eta l nm
 have hxs:x1.size+x2.size≤1048576:=by have h1:=fileOf_size l nm; rw [hfo] at h1; dsimp only at h1; have h2:=HSZR.out.2; have h3:=HNUM.out.1; omega
 have HFO:=Lib.hid hfo
 go_upto_if 43 with fail
 go_cut [11] (fun v wx=>v = .int .i64 k0∧Hid (Below w.heap.size w wx)∧Hid (Four wx w.heap.size 38 (.int .i64 rm) (.slice a n c) (.int .i64 lf) (.bool false))∧Hid (outBox wx (w.heap.size+1))∧Hid (outBox wx (w.heap.size+2))∧Hid (Three wx fb (.string nm) (.string x1) (.string x2)))
 case first =>
  by_cases h0:k0<0
  ·obtain⟨-,h2,-⟩:=atL_no (HK0.out ▸ h0)
   obtain⟨rfl,rfl⟩:x1=⟨#[]⟩∧x2=⟨#[]⟩:=by rw [h2] at hfo; injection hfo with e1 e2 e3; exact⟨e2.symm,e3.symm⟩
   clear hfo h2 hxs HFO
   go_wp2_with fail
   go_meet
   exact⟨rfl,Lib.hid (HB3.out.alloc HB3.out.size _),Lib.hid (Four.alloc HP3.out _),Lib.hid (Four.alloc HO3.out _),Lib.hid (Four.alloc HN3.out _),Lib.hid (HFB.out ▸ Three.new w3 _ _ _)⟩
  ·obtain⟨k,hk,h2,h3,h4⟩:=atL_lt (HK0.out ▸ h0)
   obtain rfl:k0=(k:Int):=HK0.out.trans h2
   have hkn:k<n:=by have:=HLEN.out; omega
   have hki:(k:Int)<(n:Int):=by omega
   obtain⟨-,b,off,rfl,hcells⟩:=fl_at HSL3.out (by omega)
   obtain⟨c0,c1,c2⟩:=hcells k hk
   rw [h4] at hfo
   rw [hfo] at c0 c1 c2
   clear hxs HFO
   have p:=Four.alloc HP3.out (.cells #[.string nm,.string ⟨#[]⟩,.string ⟨#[]⟩] 55)
   have p0:=p.c0; have p1:=p.c1; have p2:=p.c2; have p3:=p.c3
   clear p hcells h2 h3 h4 hfo
   go_wp2_with fail
   go_meet
   exact⟨rfl,Lib.hid (HB3.out.alloc HB3.out.size _),Lib.hid (Four.alloc HP3.out _),Lib.hid (Four.alloc HO3.out _),Lib.hid (Four.alloc HN3.out _),Lib.hid (HFB.out ▸ Three.new w3 _ _ _)⟩
 case rest =>
  obtain⟨rfl,HB4,HP4,HO4,HN4,HF4⟩:=hcut
  rw [← HFB.out]
  clear HB3 HP3 HO3 HN3 HSL3 HFB
  obtain⟨sz,hsz⟩:∃ sz,sz=szL l:=⟨_,rfl⟩
  have hszb:(sz:Int)≤1048576:=by have h1:=HSZR.out; have h2:=HNUM.out.1; rw [hsz,h1.1]; omega
  have hrs:=Lib.hid (fun (p:Bel wc)=>refSize_any a n c l p.val (H.out.keep (below_then HB4.out p.bel HB4.out.size)).sl (by omega) H.out.small sz (Lib.hid hsz))
  obtain⟨full,hfull⟩:∃ full:Bool,full=decide ((k0<0∧n=8)∨rm<(sz:Int)+(more.size:Int)):=⟨_,rfl⟩
  have HFU:=Lib.hid hfull
  have HSZ:=Lib.hid hsz
  have hwz:IntKind.i64.wrap ((sz:Int)+(more.size:Int))=(sz:Int)+(more.size:Int):=by rw [IntKind.wrap_i64]; omega
  clear hfull hsz
  go_upto_region 10 with fail
  go_cut [71] (fun v wx=>v = .bool full∧Hid (Below w.heap.size w wx)∧Hid (Four wx w.heap.size 38 (.int .i64 rm) (.slice a n c) (.int .i64 lf) (.bool false))∧Hid (outBox wx (w.heap.size+1))∧Hid (outBox wx (w.heap.size+2))∧Hid (Three wx fb (.string nm) (.string x1) (.string x2)))
  case first =>
   have p0:=Bel.cell HP4.out.c0
   have p1:=Bel.cell HP4.out.c1
   by_cases h0:k0<0
   ·by_cases h8:n=8
    ·have b1:decide (k0<0)=true:=decide_eq_true h0
     have b2:((n:Int)==8)=true:=by simp; omega
     obtain rfl:full=true:=by rw [HFU.out]; exact decide_eq_true (by omega)
     refine wp_region_bel (by kernel_rfl) (by kernel_rfl) ?_
     repeat (go_big_quiet_step (exact bel_of (hrs.out _)))
     refine wpQuiet_nil ?_
     intro W5 hw'
     obtain⟨⟨W8,hW5⟩,he⟩:=hw'
     change W5=W8 at he
     subst he
     go_wp2_with fail
     try go_meet
     exact⟨rfl,Lib.hid (below_then HB4.out hW5 HB4.out.size),Lib.hid (Four.keep HP4.out hW5),Lib.hid (Four.keep HO4.out hW5),Lib.hid (Four.keep HN4.out hW5),Lib.hid (Three.keep HF4.out hW5)⟩
    ·by_cases hg:rm<(sz:Int)+(more.size:Int)
     ·have b1:decide (k0<0)=true:=decide_eq_true h0
      have b2:((n:Int)==8)=false:=by simp; omega
      have b3:decide (rm<(sz:Int)+(more.size:Int))=true:=decide_eq_true hg
      obtain rfl:full=true:=by rw [HFU.out]; exact decide_eq_true (by omega)
      refine wp_region_bel (by kernel_rfl) (by kernel_rfl) ?_
      repeat (go_big_quiet_step (exact bel_of (hrs.out _)))
      refine wpQuiet_nil ?_
      intro W5 hw'
      obtain⟨⟨W8,hW5⟩,he⟩:=hw'
      change W5=W8 at he
      subst he
      go_wp2_with fail
      try go_meet
      exact⟨rfl,Lib.hid (below_then HB4.out hW5 HB4.out.size),Lib.hid (Four.keep HP4.out hW5),Lib.hid (Four.keep HO4.out hW5),Lib.hid (Four.keep HN4.out hW5),Lib.hid (Three.keep HF4.out hW5)⟩
     ·have b1:decide (k0<0)=true:=decide_eq_true h0
      have b2:((n:Int)==8)=false:=by simp; omega
      have b3:decide (rm<(sz:Int)+(more.size:Int))=false:=decide_eq_false hg
      obtain rfl:full=false:=by rw [HFU.out]; exact decide_eq_false (by omega)
      refine wp_region_bel (by kernel_rfl) (by kernel_rfl) ?_
      repeat (go_big_quiet_step (exact bel_of (hrs.out _)))
      refine wpQuiet_nil ?_
      intro W5 hw'
      obtain⟨⟨W8,hW5⟩,he⟩:=hw'
      change W5=W8 at he
      subst he
      go_wp2_with fail
      try go_meet
      exact⟨rfl,Lib.hid (below_then HB4.out hW5 HB4.out.size),Lib.hid (Four.keep HP4.out hW5),Lib.hid (Four.keep HO4.out hW5),Lib.hid (Four.keep HN4.out hW5),Lib.hid (Three.keep HF4.out hW5)⟩
   ·by_cases hg:rm<(sz:Int)+(more.size:Int)
    ·have b1:decide (k0<0)=false:=decide_eq_false h0
     have b3:decide (rm<(sz:Int)+(more.size:Int))=true:=decide_eq_true hg
     obtain rfl:full=true:=by rw [HFU.out]; exact decide_eq_true (by omega)
     refine wp_region_bel (by kernel_rfl) (by kernel_rfl) ?_
     repeat (go_big_quiet_step (exact bel_of (hrs.out _)))
     refine wpQuiet_nil ?_
     intro W5 hw'
     obtain⟨⟨W8,hW5⟩,he⟩:=hw'
     change W5=W8 at he
     subst he
     go_wp2_with fail
     try go_meet
     exact⟨rfl,Lib.hid (below_then HB4.out hW5 HB4.out.size),Lib.hid (Four.keep HP4.out hW5),Lib.hid (Four.keep HO4.out hW5),Lib.hid (Four.keep HN4.out hW5),Lib.hid (Three.keep HF4.out hW5)⟩
    ·have b1:decide (k0<0)=false:=decide_eq_false h0
     have b3:decide (rm<(sz:Int)+(more.size:Int))=false:=decide_eq_false hg
     obtain rfl:full=false:=by rw [HFU.out]; exact decide_eq_false (by omega)
     refine wp_region_bel (by kernel_rfl) (by kernel_rfl) ?_
     repeat (go_big_quiet_step (exact bel_of (hrs.out _)))
     refine wpQuiet_nil ?_
     intro W5 hw'
     obtain⟨⟨W8,hW5⟩,he⟩:=hw'
     change W5=W8 at he
     subst he
     go_wp2_with fail
     try go_meet
     exact⟨rfl,Lib.hid (below_then HB4.out hW5 HB4.out.size),Lib.hid (Four.keep HP4.out hW5),Lib.hid (Four.keep HO4.out hW5),Lib.hid (Four.keep HN4.out hW5),Lib.hid (Three.keep HF4.out hW5)⟩
  case rest =>
  obtain⟨rfl,HB5,HP5,HO5,HN5,HF5⟩:=hcut
  clear HB4 HP4 HO4 HN4 HF4 hrs hwz
  cases full with
  | true =>
    have hv:writeD ⟨rm,l,lf,false⟩ nm more=(Dk.zero,130):=by
     unfold writeD
     rw [if_neg (by simp [HZR.out]),if_pos ?_]
     have h1:=of_decide_eq_true HFU.out.symm
     have h2:=HLEN.out; have h3:=HK0.out; have h4:=HSZ.out
     dsimp only at *
     rw [← h3,← h4]
     omega
    have q:=HN5.out
    have q0:=q.c0
    have q1:=q.c1
    have q2:=q.c2
    have q3:=q.c3
    have o:=HO5.out
    have o0:=o.c0
    have o1:=o.c1
    have o2:=o.c2
    have o3:=o.c3
    have of0:=o.free 0
    have of1:=o.free 1
    have of2:=o.free 2
    have of3:=o.free 3
    clear q o
    go_wp2_with fail
    refine bodyPost_ret (v:=.tuple #[.agg #[.int .i64 0,.slice none 0 0,.int .i64 0,.bool false],.int .i64 130]) ?_ rfl ?_
    ·rw [results_cell_tmp rfl]; go_simp
    ·first | exact RetDk.zero4 130 _ HB5.out (by omega) | (rw [hv]; exact RetDk.zero4 130 _ HB5.out (by omega))
  | false =>
  have hv:writeD ⟨rm,l,lf,false⟩ nm more=doneD ⟨rm,l,lf,false⟩ (wrote l nm more) (wrote l nm more):=by
   unfold writeD
   rw [if_neg (by simp [HZR.out]),if_neg ?_]
   have h1:=of_decide_eq_false HFU.out.symm
   have h2:=HLEN.out; have h3:=HK0.out; have h4:=HSZ.out
   dsimp only at *
   rw [← h3,← h4]
   omega
  clear hszb
  have hright:=write_right (d:=⟨rm,l,lf,false⟩) (nm:=nm) (more:=more)
  rw [hv] at hright
  have HV:=Lib.hid hv
  have HRR:=Lib.hid hright
  clear hv hright
  have hl1:-1≤lf∧lf≤1073741824:=HNUM.out.2.2
  have hwl:IntKind.i64.wrap (lf - 1)=lf - 1:=by rw [IntKind.wrap_i64]; omega
  obtain⟨off,hoff⟩:∃ off,off=decide (lf=0):=⟨_,rfl⟩
  obtain⟨lv,hlv⟩:∃ lv,lv=leftD ⟨rm,l,lf,false⟩:=⟨_,rfl⟩
  obtain⟨ob,hob⟩:∃ ob,ob=wc.heap.size:=⟨_,rfl⟩
  have HZO:Hid (fb<ob):=Lib.hid (by rw [hob]; exact lt_of_block HF5.out)
  have HOB:=Lib.hid hob
  have HOFF:=Lib.hid hoff
  have HLV:=Lib.hid hlv
  clear hob hoff hlv
  have p:=HP5.out
  have p0:=p.c0
  have p1:=p.c1
  have p2:=p.c2
  have p3:=p.c3
  have r:=Four.alloc HP5.out (.cells #[.int .i64 rm,.slice a n c,.int .i64 lf,.bool false] 38)
  have r0:=r.c0
  have r1:=r.c1
  have r2:=r.c2
  have r3:=r.c3
  clear p r
  have hte0:=HF5.out.c2
  go_upto_if 100 with fail
  go_cut [14] (fun v wx=>v = .bool off∧Hid (Below w.heap.size w wx)∧Hid (Four wx w.heap.size 38 (.int .i64 rm) (.slice a n c) (.int .i64 lf) (.bool false))∧Hid (outBox wx (w.heap.size+1))∧Hid (Three wx fb (.string nm) (.string x1) (.string x2))∧Hid (Four wx ob 38 (.int .i64 rm) (.slice a n c) (.int .i64 lv) (.bool false)))
  case first =>
   by_cases hl:0<lf
   ·obtain rfl:lv=lf - 1:=by rw [HLV.out]; exact if_pos hl
    obtain rfl:off=false:=by rw [HOFF.out]; exact decide_eq_false (by omega)
    have hl0:(lf==0)=false:=by simp; omega
    go_wp2_with fail
    go_meet
    exact⟨by first | rfl | rw [hl0],Lib.hid (HB5.out.alloc HB5.out.size _),Lib.hid (Four.alloc HP5.out _),Lib.hid (Four.alloc HO5.out _),Lib.hid (Three.alloc HF5.out _),Lib.hid (HOB.out ▸ Four.new wc _ _ _ _ _)⟩
   ·obtain rfl:lf=lv:=by rw [HLV.out]; exact (if_neg hl).symm
    by_cases hl2:lf=0
    ·subst hl2
     obtain rfl:off=true:=by rw [HOFF.out]; rfl
     go_wp2_with fail
     go_meet
     exact⟨by first | rfl | rw [hl0],Lib.hid (HB5.out.alloc HB5.out.size _),Lib.hid (Four.alloc HP5.out _),Lib.hid (Four.alloc HO5.out _),Lib.hid (Three.alloc HF5.out _),Lib.hid (HOB.out ▸ Four.new wc _ _ _ _ _)⟩
    ·obtain rfl:off=false:=by rw [HOFF.out]; exact decide_eq_false hl2
     have hl0:(lf==0)=false:=by simp; omega
     go_wp2_with fail
     go_meet
     exact⟨by first | rfl | rw [hl0],Lib.hid (HB5.out.alloc HB5.out.size _),Lib.hid (Four.alloc HP5.out _),Lib.hid (Four.alloc HO5.out _),Lib.hid (Three.alloc HF5.out _),Lib.hid (HOB.out ▸ Four.new wc _ _ _ _ _)⟩
  case rest =>
   obtain⟨rfl,HB6,HP6,HO6,HF6,HQ6⟩:=hcut
   rw [← HOB.out]
   clear HB5 HP5 HO5 HF5 HOB p0 p1 p2 p3 r0 r1 r2 r3 hte0 hwl
   have hzo:fb<ob:=HZO.out
   have hzf:w.heap.size+3≤fb:=HZF.out
   cases off with
   | true =>
     obtain rfl:lf=0:=of_decide_eq_true HOFF.out.symm
     obtain rfl:lv=0:=HLV.out
     have hv:writeD ⟨rm,l,0,false⟩ nm more=(⟨rm,wrote l nm more,0,true⟩,132):=HV.out.trans (if_pos rfl)
     have hr8:rightD ⟨rm,wrote l nm more,0,true⟩=true:=by have h1:=HRR.out; rw [← HV.out,hv] at h1; exact h1
     have HV8:=Lib.hid hv
     have HR8:=Lib.hid hr8
     clear hv hr8
     have p:=HP6.out
     have p0:=p.c0
     have p1:=p.c1
     have p2:=p.c2
     have p3:=p.c3
     have q:=HQ6.out
     have q0:=q.c0
     have q1:=q.c1
     have q2:=q.c2
     have q3:=q.c3
     have qf0:=q.free 0
     have qf1:=q.free 1
     have qf2:=q.free 2
     have qf3:=q.free 3
     have t:=HF6.out
     have t0:=t.c0
     have tf0:=t.free 0
     have t1:=t.c1
     have tf1:=t.free 1
     have t2:=t.c2
     have tf2:=t.free 2
     clear t
     clear p q
     have HB7:=Lib.hid (HB6.out.setCell (p:=⟨ob,3,none⟩) (by simp; omega) (.bool true))
     have HO7:=Lib.hid (Four.setT (o:=3) HO6.out (show w.heap.size+1≠ob by omega) (.bool true))
     have HP7:=Lib.hid (Four.setT (o:=3) HP6.out (show w.heap.size≠ob by omega) (.bool true))
     have HQ7:=Lib.hid (Four.set3 HQ6.out (.bool true))
     have HF7:=Lib.hid (Three.setT (o:=3) HF6.out (show fb≠ob by omega) (.bool true))
     replace HB7:=Lib.hid (HB7.out.setCell (p:=⟨fb,2,none⟩) (by simp; omega) (.string (x2++more)))
     replace HO7:=Lib.hid (Four.setT (o:=2) HO7.out (show w.heap.size+1≠fb by omega) (.string (x2++more)))
     replace HP7:=Lib.hid (Four.setT (o:=2) HP7.out (show w.heap.size≠fb by omega) (.string (x2++more)))
     replace HQ7:=Lib.hid (Four.setT (o:=2) HQ7.out (show ob≠fb by omega) (.string (x2++more)))
     replace HF7:=Lib.hid (Three.set2 HF7.out (.string (x2++more)))
     have HNW:Hid (wrote l nm more=withF l ⟨nm,x1,x2++more⟩):=Lib.hid (by unfold wrote; rw [HFO.out])
     have HSL7:=Lib.hid (H.out.keep HB7.out).sl
     go_wp2_with fail
     refine (refWith_any a n c l ⟨nm,x1,x2++more⟩ _ HSL7.out (by omega)).mono ?_
     rintro e w8 ⟨v8,rfl,hown⟩
     rw [← HNW.out] at hown
     obtain⟨a8,n8,c8,rfl,hd8,hx8⟩:=DkAt.own (d:=⟨rm,wrote l nm more,0,true⟩) hown HR8.out
     have HD8:=Lib.hid hd8
     have HX8:Hid (∀ p,a8=some p→p.block≠w.heap.size+1∧p.block≠ob):=Lib.hid (fun p hp=>by have h1:=hx8 p hp; have h2:=lt_of_block HQ7.out; omega)
     have HB8:=Lib.hid (below_then HB7.out hown.2 HB7.out.size)
     have HO8:=Lib.hid (Four.keep HO7.out hown.2)
     have HQ8:=Lib.hid (Four.keep HQ7.out hown.2)
     clear hown hd8 hx8 p0 p1 p2 p3 q0 q1 q2 q3 qf0 qf1 qf2 qf3
     have o:=HO8.out
     have o0:=o.c0
     have o1:=o.c1
     have o2:=o.c2
     have o3:=o.c3
     have q:=HQ8.out
     have q0:=q.c0
     have q1:=q.c1
     have q2:=q.c2
     have q3:=q.c3
     have of0:=o.free 0
     have of1:=o.free 1
     have of2:=o.free 2
     have of3:=o.free 3
     have qf0:=q.free 0
     have qf1:=q.free 1
     have qf2:=q.free 2
     have qf3:=q.free 3
     clear o q
     go_wp2_with fail
     refine bodyPost_ret (v:=.tuple #[.agg #[.int .i64 rm,.slice a8 n8 c8,.int .i64 0,.bool true],.int .i64 132]) ?_ rfl ?_
     ·rw [results_cell_tmp rfl]; go_simp
     ·exact call_end HV8.out HB8.out HD8.out HX8.out (by omega) _ _ _ _
   | false =>
     have hl0:lf≠0:=of_decide_eq_false HOFF.out.symm
     have hv:writeD ⟨rm,l,lf,false⟩ nm more=(⟨rm,wrote l nm more,lv,false⟩,0):=HV.out.trans (by rw [HLV.out]; exact if_neg hl0)
     have hr8:rightD ⟨rm,wrote l nm more,lv,false⟩=true:=by have h1:=HRR.out; rw [← HV.out,hv] at h1; exact h1
     have HV8:=Lib.hid hv
     have HR8:=Lib.hid hr8
     clear hv hr8 hl0
     have p:=HP6.out
     have p0:=p.c0
     have p1:=p.c1
     have p2:=p.c2
     have p3:=p.c3
     have q:=HQ6.out
     have q0:=q.c0
     have q1:=q.c1
     have q2:=q.c2
     have q3:=q.c3
     have qf0:=q.free 0
     have qf1:=q.free 1
     have qf2:=q.free 2
     have qf3:=q.free 3
     have p:=HP6.out
     have p0:=p.c0
     have p1:=p.c1
     have p2:=p.c2
     have p3:=p.c3
     have q:=HQ6.out
     have q0:=q.c0
     have q1:=q.c1
     have q2:=q.c2
     have q3:=q.c3
     have qf0:=q.free 0
     have qf1:=q.free 1
     have qf2:=q.free 2
     have qf3:=q.free 3
     have t:=HF6.out
     have t0:=t.c0
     have tf0:=t.free 0
     have t1:=t.c1
     have tf1:=t.free 1
     have t2:=t.c2
     have tf2:=t.free 2
     clear t
     clear p q
     have HB7:=Lib.hid (HB6.out.setCell (p:=⟨ob,3,none⟩) (by simp; omega) (.bool false))
     have HO7:=Lib.hid (Four.setT (o:=3) HO6.out (show w.heap.size+1≠ob by omega) (.bool false))
     have HP7:=Lib.hid (Four.setT (o:=3) HP6.out (show w.heap.size≠ob by omega) (.bool false))
     have HQ7:=Lib.hid (Four.set3 HQ6.out (.bool false))
     have HF7:=Lib.hid (Three.setT (o:=3) HF6.out (show fb≠ob by omega) (.bool false))
     replace HB7:=Lib.hid (HB7.out.setCell (p:=⟨fb,2,none⟩) (by simp; omega) (.string (x2++more)))
     replace HO7:=Lib.hid (Four.setT (o:=2) HO7.out (show w.heap.size+1≠fb by omega) (.string (x2++more)))
     replace HP7:=Lib.hid (Four.setT (o:=2) HP7.out (show w.heap.size≠fb by omega) (.string (x2++more)))
     replace HQ7:=Lib.hid (Four.setT (o:=2) HQ7.out (show ob≠fb by omega) (.string (x2++more)))
     replace HF7:=Lib.hid (Three.set2 HF7.out (.string (x2++more)))
     have HNW:Hid (wrote l nm more=withF l ⟨nm,x1,x2++more⟩):=Lib.hid (by unfold wrote; rw [HFO.out])
     have HSL7:=Lib.hid (H.out.keep HB7.out).sl
     go_wp2_with fail
     refine (refWith_any a n c l ⟨nm,x1,x2++more⟩ _ HSL7.out (by omega)).mono ?_
     rintro e w8 ⟨v8,rfl,hown⟩
     rw [← HNW.out] at hown
     obtain⟨a8,n8,c8,rfl,hd8,hx8⟩:=DkAt.own (d:=⟨rm,wrote l nm more,lv,false⟩) hown HR8.out
     have HD8:=Lib.hid hd8
     have HX8:Hid (∀ p,a8=some p→p.block≠w.heap.size+1∧p.block≠ob):=Lib.hid (fun p hp=>by have h1:=hx8 p hp; have h2:=lt_of_block HQ7.out; omega)
     have HB8:=Lib.hid (below_then HB7.out hown.2 HB7.out.size)
     have HO8:=Lib.hid (Four.keep HO7.out hown.2)
     have HQ8:=Lib.hid (Four.keep HQ7.out hown.2)
     clear hown hd8 hx8 p0 p1 p2 p3 q0 q1 q2 q3 qf0 qf1 qf2 qf3
     have o:=HO8.out
     have o0:=o.c0
     have o1:=o.c1
     have o2:=o.c2
     have o3:=o.c3
     have q:=HQ8.out
     have q0:=q.c0
     have q1:=q.c1
     have q2:=q.c2
     have q3:=q.c3
     have of0:=o.free 0
     have of1:=o.free 1
     have of2:=o.free 2
     have of3:=o.free 3
     have qf0:=q.free 0
     have qf1:=q.free 1
     have qf2:=q.free 2
     have qf3:=q.free 3
     clear o q
     go_wp2_with fail
     refine bodyPost_ret (v:=.tuple #[.agg #[.int .i64 rm,.slice a8 n8 c8,.int .i64 lv,.bool false],.int .i64 0]) ?_ rfl ?_
     ·rw [results_cell_tmp rfl]; go_simp
     ·exact call_end HV8.out HB8.out HD8.out HX8.out (by omega) _ _ _ _
set_option maxRecDepth 100000 in
set_option maxHeartbeats 4000000 in
theorem call2_go (a:Option Addr) (n c:Nat) (d:Dk) (nm more:ByteArray) (w:World) (h:DkAt w a n c d) (hs:nm.size≤maxLen) (hs2:more.size≤2097152) (hz:readyD d [nm]=0) :
 Calls Tryz.prog 111 #[d.val a n c,.int .i64 2,.string nm,.string more] w (RetDk w (syncD d nm)):=by
 have hmf:∀ fn first cap w,(Instr.makeFunc fn first cap).run Tryz.prog w = .ok (.func fn first cap) w:=fun _ _ _ _=>rfl
 obtain⟨hR,hN,hD⟩:=ready_parts hz
 have hn8:n≤8:=by have:=(rightD_nums hR).2.1; have:=h.len; omega
 have HNUM:=Lib.hid (rightD_nums hR)
 have HSZR:=Lib.hid (rightD_size hR)
 have HLEN:=Lib.hid h.len
 have HB0:=Lib.hid (call_below w d a n c)
 have HP0:=Lib.hid (call_box w d a n c)
 have HO0:=Lib.hid (call_out w d a n c)
 have HN0:=Lib.hid (call_none w d a n c)
 have HZ:=Lib.hid (call_size w d a n c)
 have hrt:=Lib.hid (fun (W:World) (hb:Below w.heap.size w W)=>refRight_any a n c d W (h.keep hb) true (Lib.hid hR.symm))
 have hnm:=Lib.hid (refName_any nm hs · true (Lib.hid (by have h1:=hN; simp at h1; first | exact h1.symm | exact h1.1.symm)))
 have hm2:more.size≤maxLen:=by unfold maxLen; omega
 obtain⟨k0,hk0⟩:∃ k0,k0=atL d.files nm:=⟨_,rfl⟩
 have hat:=Lib.hid (fun (W:World) (hb:Below w.heap.size w W)=>refAt_any a n c d nm W (h.keep hb) k0 (Lib.hid hk0))
 have H:=Lib.hid h
 have HRT:=Lib.hid hR
 have HZR:=Lib.hid hz
 have HK0:=Lib.hid hk0
 clear h hR hN hz hk0
 unfold callW at *
 obtain⟨rm,l,lf,dn⟩:=d
 unfold Dk.val at *
 dsimp only at *
 obtain rfl:dn=false:=hD
 go_enter Tryz.func111,Tryz.ntmps111
 go_wp2_with fail
 refine (hrt.out _ HB0.out).mono ?_
 rintro e w1 ⟨rfl,hb1⟩
 have HB1:=Lib.hid (below_then HB0.out hb1 HB0.out.size)
 have HP1:=Lib.hid (Four.keep HP0.out hb1)
 have HO1:=Lib.hid (Four.keep HO0.out hb1)
 have HN1:=Lib.hid (Four.keep HN0.out hb1)
 have hz1:w.heap.size+3≤w1.heap.size:=by have h1:=hb1.size; rw [HZ.out] at h1; exact h1
 have HZ1:=Lib.hid hz1
 clear hb1 HB0 HP0 HO0 HN0 hrt HZ hz1
 go_wp2_with fail
 refine (hnm.out _).mono ?_
 rintro e w2 ⟨rfl,rfl⟩
 have p:=HP1.out
 have p0:=p.c0; have p1:=p.c1; have p2:=p.c2; have p3:=p.c3
 clear p
 go_wp2_with fail
 refine (hat.out w1 HB1.out).mono ?_
 rintro e w3 ⟨rfl,hb3⟩
 clear p0 p1 p2 p3 hat hnm
 have HB3:=Lib.hid (below_then HB1.out hb3 HB1.out.size)
 have HP3:=Lib.hid (Four.keep HP1.out hb3)
 have HO3:=Lib.hid (Four.keep HO1.out hb3)
 have HN3:=Lib.hid (Four.keep HN1.out hb3)
 have hz3:w.heap.size+3≤w3.heap.size:=Nat.le_trans HZ1.out hb3.size
 obtain⟨fb,hfb⟩:∃ fb,fb=w3.heap.size:=⟨_,rfl⟩
 have HZF:Hid (w.heap.size+3≤fb):=Lib.hid (by omega)
 have HFB:=Lib.hid hfb
 have HSL3:=Lib.hid (H.out.keep (HB3.out.alloc HB3.out.size (.cells #[.string nm,.string ⟨#[]⟩,.string ⟨#[]⟩] 55))).sl
 clear hb3 HB1 HP1 HO1 HN1 hz3 hfb HZ1
 obtain⟨x1,x2,hfo⟩:=fileOf_eta l nm
 have hxs:x1.size+x2.size≤1048576:=by have h1:=fileOf_size l nm; rw [hfo] at h1; dsimp only at h1; have h2:=HSZR.out.2; have h3:=HNUM.out.1; omega
 have HFO:=Lib.hid hfo
 go_upto_if 43 with fail
 go_cut [11] (fun v wx=>v = .int .i64 k0∧Hid (Below w.heap.size w wx)∧Hid (Four wx w.heap.size 38 (.int .i64 rm) (.slice a n c) (.int .i64 lf) (.bool false))∧Hid (outBox wx (w.heap.size+1))∧Hid (outBox wx (w.heap.size+2))∧Hid (Three wx fb (.string nm) (.string x1) (.string x2)))
 case first =>
  by_cases h0:k0<0
  ·obtain⟨-,h2,-⟩:=atL_no (HK0.out ▸ h0)
   obtain⟨rfl,rfl⟩:x1=⟨#[]⟩∧x2=⟨#[]⟩:=by rw [h2] at hfo; injection hfo with e1 e2 e3; exact⟨e2.symm,e3.symm⟩
   clear hfo h2 hxs HFO
   go_wp2_with fail
   go_meet
   exact⟨rfl,Lib.hid (HB3.out.alloc HB3.out.size _),Lib.hid (Four.alloc HP3.out _),Lib.hid (Four.alloc HO3.out _),Lib.hid (Four.alloc HN3.out _),Lib.hid (HFB.out ▸ Three.new w3 _ _ _)⟩
  ·obtain⟨k,hk,h2,h3,h4⟩:=atL_lt (HK0.out ▸ h0)
   obtain rfl:k0=(k:Int):=HK0.out.trans h2
   have hkn:k<n:=by have:=HLEN.out; omega
   have hki:(k:Int)<(n:Int):=by omega
   obtain⟨-,b,off,rfl,hcells⟩:=fl_at HSL3.out (by omega)
   obtain⟨c0,c1,c2⟩:=hcells k hk
   rw [h4] at hfo
   rw [hfo] at c0 c1 c2
   clear hxs HFO
   have p:=Four.alloc HP3.out (.cells #[.string nm,.string ⟨#[]⟩,.string ⟨#[]⟩] 55)
   have p0:=p.c0; have p1:=p.c1; have p2:=p.c2; have p3:=p.c3
   clear p hcells h2 h3 h4 hfo
   go_wp2_with fail
   go_meet
   exact⟨rfl,Lib.hid (HB3.out.alloc HB3.out.size _),Lib.hid (Four.alloc HP3.out _),Lib.hid (Four.alloc HO3.out _),Lib.hid (Four.alloc HN3.out _),Lib.hid (HFB.out ▸ Three.new w3 _ _ _)⟩
 case rest =>
  obtain⟨rfl,HB4,HP4,HO4,HN4,HF4⟩:=hcut
  rw [← HFB.out]
  clear HB3 HP3 HO3 HN3 HSL3 HFB
  go_upto_region 10 with fail
  refine wp_region_bel (by kernel_rfl) (by kernel_rfl) ?_
  repeat (go_big_quiet_step (fail))
  refine wpQuiet_nil ?_
  intro W5 hw'
  obtain⟨⟨W8,hW5⟩,he⟩:=hw'
  change W5=W8 at he
  subst he
  have HB5:=Lib.hid (below_then HB4.out hW5 HB4.out.size)
  have HP5:=Lib.hid (Four.keep HP4.out hW5)
  have HO5:=Lib.hid (Four.keep HO4.out hW5)
  have HN5:=Lib.hid (Four.keep HN4.out hW5)
  have HF5:=Lib.hid (Three.keep HF4.out hW5)
  clear hW5 HB4 HP4 HO4 HN4 HF4
  by_cases h0:k0<0
  ·have hv:syncD ⟨rm,l,lf,false⟩ nm=(Dk.zero,60):=by unfold syncD; rw [if_neg (by simp [HZR.out]),if_pos (HK0.out ▸ h0)]
   have q:=HN5.out
   have q0:=q.c0
   have q1:=q.c1
   have q2:=q.c2
   have q3:=q.c3
   have o:=HO5.out
   have o0:=o.c0
   have o1:=o.c1
   have o2:=o.c2
   have o3:=o.c3
   have of0:=o.free 0
   have of1:=o.free 1
   have of2:=o.free 2
   have of3:=o.free 3
   clear q o
   go_wp2_with fail
   refine bodyPost_ret (v:=.tuple #[.agg #[.int .i64 0,.slice none 0 0,.int .i64 0,.bool false],.int .i64 60]) ?_ rfl ?_
   ·rw [results_cell_tmp rfl]; go_simp
   ·first | exact RetDk.zero4 60 _ HB5.out (by omega) | (rw [hv]; exact RetDk.zero4 60 _ HB5.out (by omega))
  have hv:syncD ⟨rm,l,lf,false⟩ nm=doneD ⟨rm,l,lf,false⟩ (synced l nm) l:=by unfold syncD; rw [if_neg (by simp [HZR.out]),if_neg (HK0.out ▸ h0)]
  have hright:=sync_right (d:=⟨rm,l,lf,false⟩) (nm:=nm)
  rw [hv] at hright
  have HV:=Lib.hid hv
  have HRR:=Lib.hid hright
  clear hv hright
  have hl1:-1≤lf∧lf≤1073741824:=HNUM.out.2.2
  have hwl:IntKind.i64.wrap (lf - 1)=lf - 1:=by rw [IntKind.wrap_i64]; omega
  obtain⟨off,hoff⟩:∃ off,off=decide (lf=0):=⟨_,rfl⟩
  obtain⟨lv,hlv⟩:∃ lv,lv=leftD ⟨rm,l,lf,false⟩:=⟨_,rfl⟩
  obtain⟨ob,hob⟩:∃ ob,ob=W5.heap.size:=⟨_,rfl⟩
  have HZO:Hid (fb<ob):=Lib.hid (by rw [hob]; exact lt_of_block HF5.out)
  have HOB:=Lib.hid hob
  have HOFF:=Lib.hid hoff
  have HLV:=Lib.hid hlv
  clear hob hoff hlv
  have p:=HP5.out
  have p0:=p.c0
  have p1:=p.c1
  have p2:=p.c2
  have p3:=p.c3
  have r:=Four.alloc HP5.out (.cells #[.int .i64 rm,.slice a n c,.int .i64 lf,.bool false] 38)
  have r0:=r.c0
  have r1:=r.c1
  have r2:=r.c2
  have r3:=r.c3
  clear p r
  have hte0:=HF5.out.c2
  go_upto_if 100 with fail
  go_cut [14] (fun v wx=>v = .bool off∧Hid (Below w.heap.size w wx)∧Hid (Four wx w.heap.size 38 (.int .i64 rm) (.slice a n c) (.int .i64 lf) (.bool false))∧Hid (outBox wx (w.heap.size+1))∧Hid (Three wx fb (.string nm) (.string x1) (.string x2))∧Hid (Four wx ob 38 (.int .i64 rm) (.slice a n c) (.int .i64 lv) (.bool false)))
  case first =>
   by_cases hl:0<lf
   ·obtain rfl:lv=lf - 1:=by rw [HLV.out]; exact if_pos hl
    obtain rfl:off=false:=by rw [HOFF.out]; exact decide_eq_false (by omega)
    have hl0:(lf==0)=false:=by simp; omega
    go_wp2_with fail
    go_meet
    exact⟨by first | rfl | rw [hl0],Lib.hid (HB5.out.alloc HB5.out.size _),Lib.hid (Four.alloc HP5.out _),Lib.hid (Four.alloc HO5.out _),Lib.hid (Three.alloc HF5.out _),Lib.hid (HOB.out ▸ Four.new W5 _ _ _ _ _)⟩
   ·obtain rfl:lf=lv:=by rw [HLV.out]; exact (if_neg hl).symm
    by_cases hl2:lf=0
    ·subst hl2
     obtain rfl:off=true:=by rw [HOFF.out]; rfl
     go_wp2_with fail
     go_meet
     exact⟨by first | rfl | rw [hl0],Lib.hid (HB5.out.alloc HB5.out.size _),Lib.hid (Four.alloc HP5.out _),Lib.hid (Four.alloc HO5.out _),Lib.hid (Three.alloc HF5.out _),Lib.hid (HOB.out ▸ Four.new W5 _ _ _ _ _)⟩
    ·obtain rfl:off=false:=by rw [HOFF.out]; exact decide_eq_false hl2
     have hl0:(lf==0)=false:=by simp; omega
     go_wp2_with fail
     go_meet
     exact⟨by first | rfl | rw [hl0],Lib.hid (HB5.out.alloc HB5.out.size _),Lib.hid (Four.alloc HP5.out _),Lib.hid (Four.alloc HO5.out _),Lib.hid (Three.alloc HF5.out _),Lib.hid (HOB.out ▸ Four.new W5 _ _ _ _ _)⟩
  case rest =>
   obtain⟨rfl,HB6,HP6,HO6,HF6,HQ6⟩:=hcut
   rw [← HOB.out]
   clear HB5 HP5 HO5 HF5 HOB p0 p1 p2 p3 r0 r1 r2 r3 hte0 hwl
   have hzo:fb<ob:=HZO.out
   have hzf:w.heap.size+3≤fb:=HZF.out
   cases off with
   | true =>
     obtain rfl:lf=0:=of_decide_eq_true HOFF.out.symm
     obtain rfl:lv=0:=HLV.out
     have hv:syncD ⟨rm,l,0,false⟩ nm=(⟨rm,l,0,true⟩,132):=HV.out.trans (if_pos rfl)
     have HV8:=Lib.hid hv
     clear hv
     have o:=HO6.out
     have o0:=o.c0
     have o1:=o.c1
     have o2:=o.c2
     have o3:=o.c3
     have q:=HQ6.out
     have q0:=q.c0
     have q1:=q.c1
     have q2:=q.c2
     have q3:=q.c3
     have of0:=o.free 0
     have of1:=o.free 1
     have of2:=o.free 2
     have of3:=o.free 3
     have qf0:=q.free 0
     have qf1:=q.free 1
     have qf2:=q.free 2
     have qf3:=q.free 3
     clear o q
     go_wp2_with fail
     refine bodyPost_ret (v:=.tuple #[.agg #[.int .i64 rm,.slice a n c,.int .i64 0,.bool true],.int .i64 132]) ?_ rfl ?_
     ·rw [results_cell_tmp rfl]; go_simp
     ·exact call_end0 (d:=⟨rm,l,0,false⟩) HV8.out (HB6.out.setCell (p:=⟨ob,3,none⟩) (by simp; omega) (.bool true)) H.out (by omega) _ _ _ _
   | false =>
     have hl0:lf≠0:=of_decide_eq_false HOFF.out.symm
     have hv:syncD ⟨rm,l,lf,false⟩ nm=(⟨rm,synced l nm,lv,false⟩,0):=HV.out.trans (by rw [HLV.out]; exact if_neg hl0)
     have hr8:rightD ⟨rm,synced l nm,lv,false⟩=true:=by have h1:=HRR.out; rw [← HV.out,hv] at h1; exact h1
     have HV8:=Lib.hid hv
     have HR8:=Lib.hid hr8
     clear hv hr8 hl0
     have p:=HP6.out
     have p0:=p.c0
     have p1:=p.c1
     have p2:=p.c2
     have p3:=p.c3
     have q:=HQ6.out
     have q0:=q.c0
     have q1:=q.c1
     have q2:=q.c2
     have q3:=q.c3
     have qf0:=q.free 0
     have qf1:=q.free 1
     have qf2:=q.free 2
     have qf3:=q.free 3
     have p:=HP6.out
     have p0:=p.c0
     have p1:=p.c1
     have p2:=p.c2
     have p3:=p.c3
     have q:=HQ6.out
     have q0:=q.c0
     have q1:=q.c1
     have q2:=q.c2
     have q3:=q.c3
     have qf0:=q.free 0
     have qf1:=q.free 1
     have qf2:=q.free 2
     have qf3:=q.free 3
     have t:=HF6.out
     have t0:=t.c0
     have tf0:=t.free 0
     have t1:=t.c1
     have tf1:=t.free 1
     have t2:=t.c2
     have tf2:=t.free 2
     clear t
     clear p q
     have HB7:=Lib.hid (HB6.out.setCell (p:=⟨ob,3,none⟩) (by simp; omega) (.bool false))
     have HO7:=Lib.hid (Four.setT (o:=3) HO6.out (show w.heap.size+1≠ob by omega) (.bool false))
     have HP7:=Lib.hid (Four.setT (o:=3) HP6.out (show w.heap.size≠ob by omega) (.bool false))
     have HQ7:=Lib.hid (Four.set3 HQ6.out (.bool false))
     have HF7:=Lib.hid (Three.setT (o:=3) HF6.out (show fb≠ob by omega) (.bool false))
     replace HB7:=Lib.hid (HB7.out.setCell (p:=⟨fb,1,none⟩) (by simp; omega) (.string (x1++x2)))
     replace HO7:=Lib.hid (Four.setT (o:=1) HO7.out (show w.heap.size+1≠fb by omega) (.string (x1++x2)))
     replace HP7:=Lib.hid (Four.setT (o:=1) HP7.out (show w.heap.size≠fb by omega) (.string (x1++x2)))
     replace HQ7:=Lib.hid (Four.setT (o:=1) HQ7.out (show ob≠fb by omega) (.string (x1++x2)))
     replace HF7:=Lib.hid (Three.set1 HF7.out (.string (x1++x2)))
     replace HB7:=Lib.hid (HB7.out.setCell (p:=⟨fb,2,none⟩) (by simp; omega) (.string ⟨#[]⟩))
     replace HO7:=Lib.hid (Four.setT (o:=2) HO7.out (show w.heap.size+1≠fb by omega) (.string ⟨#[]⟩))
     replace HP7:=Lib.hid (Four.setT (o:=2) HP7.out (show w.heap.size≠fb by omega) (.string ⟨#[]⟩))
     replace HQ7:=Lib.hid (Four.setT (o:=2) HQ7.out (show ob≠fb by omega) (.string ⟨#[]⟩))
     replace HF7:=Lib.hid (Three.set2 HF7.out (.string ⟨#[]⟩))
     have HNW:Hid (synced l nm=withF l ⟨nm,x1++x2,⟨#[]⟩⟩):=Lib.hid (by unfold synced; rw [HFO.out])
     have HSL7:=Lib.hid (H.out.keep HB7.out).sl
     go_wp2_with fail
     refine (refWith_any a n c l ⟨nm,x1++x2,⟨#[]⟩⟩ _ HSL7.out (by omega)).mono ?_
     rintro e w8 ⟨v8,rfl,hown⟩
     rw [← HNW.out] at hown
     obtain⟨a8,n8,c8,rfl,hd8,hx8⟩:=DkAt.own (d:=⟨rm,synced l nm,lv,false⟩) hown HR8.out
     have HD8:=Lib.hid hd8
     have HX8:Hid (∀ p,a8=some p→p.block≠w.heap.size+1∧p.block≠ob):=Lib.hid (fun p hp=>by have h1:=hx8 p hp; have h2:=lt_of_block HQ7.out; omega)
     have HB8:=Lib.hid (below_then HB7.out hown.2 HB7.out.size)
     have HO8:=Lib.hid (Four.keep HO7.out hown.2)
     have HQ8:=Lib.hid (Four.keep HQ7.out hown.2)
     clear hown hd8 hx8 p0 p1 p2 p3 q0 q1 q2 q3 qf0 qf1 qf2 qf3
     have o:=HO8.out
     have o0:=o.c0
     have o1:=o.c1
     have o2:=o.c2
     have o3:=o.c3
     have q:=HQ8.out
     have q0:=q.c0
     have q1:=q.c1
     have q2:=q.c2
     have q3:=q.c3
     have of0:=o.free 0
     have of1:=o.free 1
     have of2:=o.free 2
     have of3:=o.free 3
     have qf0:=q.free 0
     have qf1:=q.free 1
     have qf2:=q.free 2
     have qf3:=q.free 3
     clear o q
     go_wp2_with fail
     refine bodyPost_ret (v:=.tuple #[.agg #[.int .i64 rm,.slice a8 n8 c8,.int .i64 lv,.bool false],.int .i64 0]) ?_ rfl ?_
     ·rw [results_cell_tmp rfl]; go_simp
     ·exact call_end HV8.out HB8.out HD8.out HX8.out (by omega) _ _ _ _
set_option maxRecDepth 100000 in
set_option maxHeartbeats 4000000 in
theorem call3_go (a:Option Addr) (n c:Nat) (d:Dk) (nm more:ByteArray) (w:World) (h:DkAt w a n c d) (hs:nm.size≤maxLen) (hs2:more.size≤2097152) (hz:readyD d [nm,more]=0) :
 Calls Tryz.prog 111 #[d.val a n c,.int .i64 3,.string nm,.string more] w (RetDk w (renameD d nm more)):=by
 have hmf:∀ fn first cap w,(Instr.makeFunc fn first cap).run Tryz.prog w = .ok (.func fn first cap) w:=fun _ _ _ _=>rfl
 obtain⟨hR,hN,hD⟩:=ready_parts hz
 have hn8:n≤8:=by have:=(rightD_nums hR).2.1; have:=h.len; omega
 have HNUM:=Lib.hid (rightD_nums hR)
 have HSZR:=Lib.hid (rightD_size hR)
 have HLEN:=Lib.hid h.len
 have HB0:=Lib.hid (call_below w d a n c)
 have HP0:=Lib.hid (call_box w d a n c)
 have HO0:=Lib.hid (call_out w d a n c)
 have HN0:=Lib.hid (call_none w d a n c)
 have HZ:=Lib.hid (call_size w d a n c)
 have hrt:=Lib.hid (fun (W:World) (hb:Below w.heap.size w W)=>refRight_any a n c d W (h.keep hb) true (Lib.hid hR.symm))
 have hnm:=Lib.hid (refName_any nm hs · true (Lib.hid (by have h1:=hN; simp at h1; first | exact h1.symm | exact h1.1.symm)))
 have hmo:=Lib.hid (refName_any more (by unfold maxLen; omega) · true (Lib.hid (by have h1:=hN; simp at h1; exact h1.2.symm)))
 obtain⟨k0,hk0⟩:∃ k0,k0=atL d.files nm:=⟨_,rfl⟩
 have hat:=Lib.hid (fun (W:World) (hb:Below w.heap.size w W)=>refAt_any a n c d nm W (h.keep hb) k0 (Lib.hid hk0))
 have H:=Lib.hid h
 have HRT:=Lib.hid hR
 have HZR:=Lib.hid hz
 have HK0:=Lib.hid hk0
 clear h hR hN hz hk0
 unfold callW at *
 obtain⟨rm,l,lf,dn⟩:=d
 unfold Dk.val at *
 dsimp only at *
 obtain rfl:dn=false:=hD
 go_enter Tryz.func111,Tryz.ntmps111
 go_wp2_with fail
 refine (hrt.out _ HB0.out).mono ?_
 rintro e w1 ⟨rfl,hb1⟩
 have HB1:=Lib.hid (below_then HB0.out hb1 HB0.out.size)
 have HP1:=Lib.hid (Four.keep HP0.out hb1)
 have HO1:=Lib.hid (Four.keep HO0.out hb1)
 have HN1:=Lib.hid (Four.keep HN0.out hb1)
 have hz1:w.heap.size+3≤w1.heap.size:=by have h1:=hb1.size; rw [HZ.out] at h1; exact h1
 have HZ1:=Lib.hid hz1
 clear hb1 HB0 HP0 HO0 HN0 hrt HZ hz1
 go_wp2_with fail
 refine (hnm.out _).mono ?_
 rintro e w2 ⟨rfl,rfl⟩
 go_wp2_with fail
 refine (hmo.out _).mono ?_
 rintro e w2 ⟨rfl,rfl⟩
 have p:=HP1.out
 have p0:=p.c0; have p1:=p.c1; have p2:=p.c2; have p3:=p.c3
 clear p
 go_wp2_with fail
 refine (hat.out w1 HB1.out).mono ?_
 rintro e w3 ⟨rfl,hb3⟩
 clear p0 p1 p2 p3 hat hnm
 have HB3:=Lib.hid (below_then HB1.out hb3 HB1.out.size)
 have HP3:=Lib.hid (Four.keep HP1.out hb3)
 have HO3:=Lib.hid (Four.keep HO1.out hb3)
 have HN3:=Lib.hid (Four.keep HN1.out hb3)
 have hz3:w.heap.size+3≤w3.heap.size:=Nat.le_trans HZ1.out hb3.size
 obtain⟨fb,hfb⟩:∃ fb,fb=w3.heap.size:=⟨_,rfl⟩
 have HZF:Hid (w.heap.size+3≤fb):=Lib.hid (by omega)
 have HFB:=Lib.hid hfb
 have HSL3:=Lib.hid (H.out.keep (HB3.out.alloc HB3.out.size (.cells #[.string nm,.string ⟨#[]⟩,.string ⟨#[]⟩] 55))).sl
 clear hb3 HB1 HP1 HO1 HN1 hz3 hfb HZ1
 obtain⟨x1,x2,hfo⟩:=fileOf_eta l nm
 have hxs:x1.size+x2.size≤1048576:=by have h1:=fileOf_size l nm; rw [hfo] at h1; dsimp only at h1; have h2:=HSZR.out.2; have h3:=HNUM.out.1; omega
 have HFO:=Lib.hid hfo
 go_upto_if 43 with fail
 go_cut [11] (fun v wx=>v = .int .i64 k0∧Hid (Below w.heap.size w wx)∧Hid (Four wx w.heap.size 38 (.int .i64 rm) (.slice a n c) (.int .i64 lf) (.bool false))∧Hid (outBox wx (w.heap.size+1))∧Hid (outBox wx (w.heap.size+2))∧Hid (Three wx fb (.string nm) (.string x1) (.string x2)))
 case first =>
  by_cases h0:k0<0
  ·obtain⟨-,h2,-⟩:=atL_no (HK0.out ▸ h0)
   obtain⟨rfl,rfl⟩:x1=⟨#[]⟩∧x2=⟨#[]⟩:=by rw [h2] at hfo; injection hfo with e1 e2 e3; exact⟨e2.symm,e3.symm⟩
   clear hfo h2 hxs HFO
   go_wp2_with fail
   go_meet
   exact⟨rfl,Lib.hid (HB3.out.alloc HB3.out.size _),Lib.hid (Four.alloc HP3.out _),Lib.hid (Four.alloc HO3.out _),Lib.hid (Four.alloc HN3.out _),Lib.hid (HFB.out ▸ Three.new w3 _ _ _)⟩
  ·obtain⟨k,hk,h2,h3,h4⟩:=atL_lt (HK0.out ▸ h0)
   obtain rfl:k0=(k:Int):=HK0.out.trans h2
   have hkn:k<n:=by have:=HLEN.out; omega
   have hki:(k:Int)<(n:Int):=by omega
   obtain⟨-,b,off,rfl,hcells⟩:=fl_at HSL3.out (by omega)
   obtain⟨c0,c1,c2⟩:=hcells k hk
   rw [h4] at hfo
   rw [hfo] at c0 c1 c2
   clear hxs HFO
   have p:=Four.alloc HP3.out (.cells #[.string nm,.string ⟨#[]⟩,.string ⟨#[]⟩] 55)
   have p0:=p.c0; have p1:=p.c1; have p2:=p.c2; have p3:=p.c3
   clear p hcells h2 h3 h4 hfo
   go_wp2_with fail
   go_meet
   exact⟨rfl,Lib.hid (HB3.out.alloc HB3.out.size _),Lib.hid (Four.alloc HP3.out _),Lib.hid (Four.alloc HO3.out _),Lib.hid (Four.alloc HN3.out _),Lib.hid (HFB.out ▸ Three.new w3 _ _ _)⟩
 case rest =>
  obtain⟨rfl,HB4,HP4,HO4,HN4,HF4⟩:=hcut
  rw [← HFB.out]
  clear HB3 HP3 HO3 HN3 HSL3 HFB
  go_upto_region 10 with fail
  refine wp_region_bel (by kernel_rfl) (by kernel_rfl) ?_
  repeat (go_big_quiet_step (fail))
  refine wpQuiet_nil ?_
  intro W5 hw'
  obtain⟨⟨W8,hW5⟩,he⟩:=hw'
  change W5=W8 at he
  subst he
  have HB5:=Lib.hid (below_then HB4.out hW5 HB4.out.size)
  have HP5:=Lib.hid (Four.keep HP4.out hW5)
  have HO5:=Lib.hid (Four.keep HO4.out hW5)
  have HN5:=Lib.hid (Four.keep HN4.out hW5)
  have HF5:=Lib.hid (Three.keep HF4.out hW5)
  clear hW5 HB4 HP4 HO4 HN4 HF4
  by_cases h0:k0<0
  ·have hv:renameD ⟨rm,l,lf,false⟩ nm more=(Dk.zero,60):=by unfold renameD; rw [if_neg (by simp [HZR.out]),if_pos (HK0.out ▸ h0)]
   have q:=HN5.out
   have q0:=q.c0
   have q1:=q.c1
   have q2:=q.c2
   have q3:=q.c3
   have o:=HO5.out
   have o0:=o.c0
   have o1:=o.c1
   have o2:=o.c2
   have o3:=o.c3
   have of0:=o.free 0
   have of1:=o.free 1
   have of2:=o.free 2
   have of3:=o.free 3
   clear q o
   go_wp2_with fail
   refine bodyPost_ret (v:=.tuple #[.agg #[.int .i64 0,.slice none 0 0,.int .i64 0,.bool false],.int .i64 60]) ?_ rfl ?_
   ·rw [results_cell_tmp rfl]; go_simp
   ·first | exact RetDk.zero4 60 _ HB5.out (by omega) | (rw [hv]; exact RetDk.zero4 60 _ HB5.out (by omega))
  by_cases ht:x2.size≠0
  ·have hv:renameD ⟨rm,l,lf,false⟩ nm more=(Dk.zero,131):=by unfold renameD; rw [if_neg (by simp [HZR.out]),if_neg (HK0.out ▸ h0),if_pos (by rw [HFO.out]; exact ht)]
   have hte:=eqNil_no ht
   have hte2:=isEmpty_no ht
   have f2:=HF5.out.c2
   have q:=HN5.out
   have q0:=q.c0
   have q1:=q.c1
   have q2:=q.c2
   have q3:=q.c3
   have o:=HO5.out
   have o0:=o.c0
   have o1:=o.c1
   have o2:=o.c2
   have o3:=o.c3
   have of0:=o.free 0
   have of1:=o.free 1
   have of2:=o.free 2
   have of3:=o.free 3
   clear q o
   go_wp2_with fail
   refine bodyPost_ret (v:=.tuple #[.agg #[.int .i64 0,.slice none 0 0,.int .i64 0,.bool false],.int .i64 131]) ?_ rfl ?_
   ·rw [results_cell_tmp rfl]; go_simp
   ·first | exact RetDk.zero4 131 _ HB5.out (by omega) | (rw [hv]; exact RetDk.zero4 131 _ HB5.out (by omega))
  have hv:renameD ⟨rm,l,lf,false⟩ nm more=doneD ⟨rm,l,lf,false⟩ (renamed l nm more) l:=by unfold renameD; rw [if_neg (by simp [HZR.out]),if_neg (HK0.out ▸ h0),if_neg (by rw [HFO.out]; exact ht)]
  obtain rfl:x2=⟨#[]⟩:=size0 (by omega)
  have hright:=rename_right (d:=⟨rm,l,lf,false⟩) (nm:=nm) («to»:=more)
  rw [hv] at hright
  have HV:=Lib.hid hv
  have HRR:=Lib.hid hright
  clear hv hright
  have hl1:-1≤lf∧lf≤1073741824:=HNUM.out.2.2
  have hwl:IntKind.i64.wrap (lf - 1)=lf - 1:=by rw [IntKind.wrap_i64]; omega
  obtain⟨off,hoff⟩:∃ off,off=decide (lf=0):=⟨_,rfl⟩
  obtain⟨lv,hlv⟩:∃ lv,lv=leftD ⟨rm,l,lf,false⟩:=⟨_,rfl⟩
  obtain⟨ob,hob⟩:∃ ob,ob=W5.heap.size:=⟨_,rfl⟩
  have HZO:Hid (fb<ob):=Lib.hid (by rw [hob]; exact lt_of_block HF5.out)
  have HOB:=Lib.hid hob
  have HOFF:=Lib.hid hoff
  have HLV:=Lib.hid hlv
  clear hob hoff hlv
  have p:=HP5.out
  have p0:=p.c0
  have p1:=p.c1
  have p2:=p.c2
  have p3:=p.c3
  have r:=Four.alloc HP5.out (.cells #[.int .i64 rm,.slice a n c,.int .i64 lf,.bool false] 38)
  have r0:=r.c0
  have r1:=r.c1
  have r2:=r.c2
  have r3:=r.c3
  clear p r
  have hte0:=HF5.out.c2
  go_upto_if 100 with fail
  go_cut [14] (fun v wx=>v = .bool off∧Hid (Below w.heap.size w wx)∧Hid (Four wx w.heap.size 38 (.int .i64 rm) (.slice a n c) (.int .i64 lf) (.bool false))∧Hid (outBox wx (w.heap.size+1))∧Hid (Three wx fb (.string nm) (.string x1) (.string ⟨#[]⟩))∧Hid (Four wx ob 38 (.int .i64 rm) (.slice a n c) (.int .i64 lv) (.bool false)))
  case first =>
   by_cases hl:0<lf
   ·obtain rfl:lv=lf - 1:=by rw [HLV.out]; exact if_pos hl
    obtain rfl:off=false:=by rw [HOFF.out]; exact decide_eq_false (by omega)
    have hl0:(lf==0)=false:=by simp; omega
    go_wp2_with fail
    go_meet
    exact⟨by first | rfl | rw [hl0],Lib.hid (HB5.out.alloc HB5.out.size _),Lib.hid (Four.alloc HP5.out _),Lib.hid (Four.alloc HO5.out _),Lib.hid (Three.alloc HF5.out _),Lib.hid (HOB.out ▸ Four.new W5 _ _ _ _ _)⟩
   ·obtain rfl:lf=lv:=by rw [HLV.out]; exact (if_neg hl).symm
    by_cases hl2:lf=0
    ·subst hl2
     obtain rfl:off=true:=by rw [HOFF.out]; rfl
     go_wp2_with fail
     go_meet
     exact⟨by first | rfl | rw [hl0],Lib.hid (HB5.out.alloc HB5.out.size _),Lib.hid (Four.alloc HP5.out _),Lib.hid (Four.alloc HO5.out _),Lib.hid (Three.alloc HF5.out _),Lib.hid (HOB.out ▸ Four.new W5 _ _ _ _ _)⟩
    ·obtain rfl:off=false:=by rw [HOFF.out]; exact decide_eq_false hl2
     have hl0:(lf==0)=false:=by simp; omega
     go_wp2_with fail
     go_meet
     exact⟨by first | rfl | rw [hl0],Lib.hid (HB5.out.alloc HB5.out.size _),Lib.hid (Four.alloc HP5.out _),Lib.hid (Four.alloc HO5.out _),Lib.hid (Three.alloc HF5.out _),Lib.hid (HOB.out ▸ Four.new W5 _ _ _ _ _)⟩
  case rest =>
   obtain⟨rfl,HB6,HP6,HO6,HF6,HQ6⟩:=hcut
   rw [← HOB.out]
   clear HB5 HP5 HO5 HF5 HOB p0 p1 p2 p3 r0 r1 r2 r3 hte0 hwl
   have hzo:fb<ob:=HZO.out
   have hzf:w.heap.size+3≤fb:=HZF.out
   cases off with
   | true =>
     obtain rfl:lf=0:=of_decide_eq_true HOFF.out.symm
     obtain rfl:lv=0:=HLV.out
     have hv:renameD ⟨rm,l,0,false⟩ nm more=(⟨rm,l,0,true⟩,132):=HV.out.trans (if_pos rfl)
     have HV8:=Lib.hid hv
     clear hv
     have o:=HO6.out
     have o0:=o.c0
     have o1:=o.c1
     have o2:=o.c2
     have o3:=o.c3
     have q:=HQ6.out
     have q0:=q.c0
     have q1:=q.c1
     have q2:=q.c2
     have q3:=q.c3
     have of0:=o.free 0
     have of1:=o.free 1
     have of2:=o.free 2
     have of3:=o.free 3
     have qf0:=q.free 0
     have qf1:=q.free 1
     have qf2:=q.free 2
     have qf3:=q.free 3
     clear o q
     go_wp2_with fail
     refine bodyPost_ret (v:=.tuple #[.agg #[.int .i64 rm,.slice a n c,.int .i64 0,.bool true],.int .i64 132]) ?_ rfl ?_
     ·rw [results_cell_tmp rfl]; go_simp
     ·exact call_end0 (d:=⟨rm,l,0,false⟩) HV8.out (HB6.out.setCell (p:=⟨ob,3,none⟩) (by simp; omega) (.bool true)) H.out (by omega) _ _ _ _
   | false =>
     have hl0:lf≠0:=of_decide_eq_false HOFF.out.symm
     have hv:renameD ⟨rm,l,lf,false⟩ nm more=(⟨rm,renamed l nm more,lv,false⟩,0):=HV.out.trans (by rw [HLV.out]; exact if_neg hl0)
     have hr8:rightD ⟨rm,renamed l nm more,lv,false⟩=true:=by have h1:=HRR.out; rw [← HV.out,hv] at h1; exact h1
     have HV8:=Lib.hid hv
     have HR8:=Lib.hid hr8
     clear hv hr8 hl0
     have p:=HP6.out
     have p0:=p.c0
     have p1:=p.c1
     have p2:=p.c2
     have p3:=p.c3
     have q:=HQ6.out
     have q0:=q.c0
     have q1:=q.c1
     have q2:=q.c2
     have q3:=q.c3
     have qf0:=q.free 0
     have qf1:=q.free 1
     have qf2:=q.free 2
     have qf3:=q.free 3
     have p:=HP6.out
     have p0:=p.c0
     have p1:=p.c1
     have p2:=p.c2
     have p3:=p.c3
     have q:=HQ6.out
     have q0:=q.c0
     have q1:=q.c1
     have q2:=q.c2
     have q3:=q.c3
     have qf0:=q.free 0
     have qf1:=q.free 1
     have qf2:=q.free 2
     have qf3:=q.free 3
     have t:=HF6.out
     have t0:=t.c0
     have tf0:=t.free 0
     have t1:=t.c1
     have tf1:=t.free 1
     have t2:=t.c2
     have tf2:=t.free 2
     clear t
     clear p q
     have HB7:=Lib.hid (HB6.out.setCell (p:=⟨ob,3,none⟩) (by simp; omega) (.bool false))
     have HO7:=Lib.hid (Four.setT (o:=3) HO6.out (show w.heap.size+1≠ob by omega) (.bool false))
     have HP7:=Lib.hid (Four.setT (o:=3) HP6.out (show w.heap.size≠ob by omega) (.bool false))
     have HQ7:=Lib.hid (Four.set3 HQ6.out (.bool false))
     have HF7:=Lib.hid (Three.setT (o:=3) HF6.out (show fb≠ob by omega) (.bool false))
     replace HB7:=Lib.hid (HB7.out.setCell (p:=⟨fb,0,none⟩) (by simp; omega) (.string more))
     replace HO7:=Lib.hid (Four.setT (o:=0) HO7.out (show w.heap.size+1≠fb by omega) (.string more))
     replace HP7:=Lib.hid (Four.setT (o:=0) HP7.out (show w.heap.size≠fb by omega) (.string more))
     replace HQ7:=Lib.hid (Four.setT (o:=0) HQ7.out (show ob≠fb by omega) (.string more))
     replace HF7:=Lib.hid (Three.set0 HF7.out (.string more))
     have HNW:Hid (renamed l nm more=withF (without l nm) ⟨more,x1,⟨#[]⟩⟩):=Lib.hid (by unfold renamed; rw [HFO.out])
     have HSL7:=Lib.hid (H.out.keep HB7.out).sl
     go_upto_region 30 with fail
     generalize (wc.setCell ⟨ob,3,none⟩ (.bool false)).setCell ⟨fb,0,none⟩ (.string more)=W7 at *
     clear p0 p1 p2 p3 q0 q1 q2 q3 qf0 qf1 qf2 qf3 t0 t1 t2 tf0 tf1 tf2
     have HSD:Hid (flE.Sl (W7.drewN 1) a n l):=Lib.hid (H.out.keep (below_drewN HB7.out 1)).sl
     have p1:=HP7.out.c1
     have t0:=HF7.out.c0; have t1:=HF7.out.c1; have t2:=HF7.out.c2
     go_cut [14] (fun v wx=>v = .bool false∧∃ a8 n8 c8,Hid (Below w.heap.size w wx)∧Hid (outBox wx (w.heap.size+1))∧Hid (Four wx ob 38 (.int .i64 rm) (.slice a8 n8 c8) (.int .i64 lv) (.bool false))∧Hid (DkAt wx a8 n8 c8 ⟨rm,renamed l nm more,lv,false⟩)∧Hid (∀ p,a8=some p→p.block≠w.heap.size+1))
     case first =>
      go_region_with (first
       | (go_at_call 162
          refine (refWithout_any a n c l nm _ HSD.out (by omega)).mono ?_
          rintro e w8 ⟨v8,rfl,hown⟩
          have HB8:=Lib.hid (below_then (below_drewN HB7.out 1) hown.2 HB7.out.size)
          have HO8:=Lib.hid (Four.keep (Four.drewN HO7.out 1) hown.2)
          have HQ8:=Lib.hid (Four.keep (Four.drewN HQ7.out 1) hown.2)
          have f8:Three w8 fb _ _ _:=Three.keep (w:=W7.drewN 1) HF7.out hown.2
          clear t0 t1 t2 p1
          have t0:=f8.c0; have t1:=f8.c1; have t2:=f8.c2
          obtain⟨a8,c8,rfl,-,hs8,-⟩:=Enc.own_sl (E:=flE) hown.1
          have HS8:=Lib.hid hs8
          clear f8 hs8 hown)
       | (go_at_call 161
          refine (refWith_any a8 _ c8 (without l nm) ⟨more,x1,⟨#[]⟩⟩ w8 HS8.out (by have h1:=len_without_le l nm; have h2:=HLEN.out; omega)).mono ?_
          rintro e w9 ⟨v9,rfl,hown⟩
          rw [← HNW.out] at hown
          obtain⟨a9,n9,c9,rfl,hd9,hx9⟩:=DkAt.own (d:=⟨rm,renamed l nm more,lv,false⟩) hown HR8.out
          have HB9:=Lib.hid (below_then HB8.out hown.2 HB8.out.size)
          have HO9:=Lib.hid (Four.keep HO8.out hown.2)
          have HQ9:=Lib.hid (Four.keep HQ8.out hown.2)
          have HD9:=Lib.hid hd9
          have HX9:Hid (∀ p,a9=some p→p.block≠w.heap.size+1∧p.block≠ob):=Lib.hid (fun p hp=>by have h1:=hx9 p hp; have h2:=lt_of_block HQ8.out; omega)
          have q1:=HQ9.out.c1
          have qf1:=HQ9.out.free 1
          clear hown hd9 hx9))
      all_goals (go_wp2_with fail; go_meet; exact⟨rfl,a9,n9,c9,Lib.hid (HB9.out.setCell (p:=⟨ob,1,none⟩) (by simp; omega) _),Lib.hid (Four.setT HO9.out (by omega) _),Lib.hid (Four.set1 HQ9.out _),Lib.hid (HD9.out.set (fun p hp=>(HX9.out p hp).2) _),Lib.hid (fun p hp=>(HX9.out p hp).1)⟩)
     case rest =>
      obtain⟨rfl,a8,n8,c8,HB8,HO8,HQ8,HD8,HX8⟩:=hcut
      clear p1 t0 t1 t2 HB7 HO7 HP7 HQ7 HF7
      have o:=HO8.out
      have o0:=o.c0
      have o1:=o.c1
      have o2:=o.c2
      have o3:=o.c3
      have q:=HQ8.out
      have q0:=q.c0
      have q1:=q.c1
      have q2:=q.c2
      have q3:=q.c3
      have of0:=o.free 0
      have of1:=o.free 1
      have of2:=o.free 2
      have of3:=o.free 3
      have qf0:=q.free 0
      have qf1:=q.free 1
      have qf2:=q.free 2
      have qf3:=q.free 3
      clear o q
      go_wp2_with fail
      refine bodyPost_ret (v:=.tuple #[.agg #[.int .i64 rm,.slice a8 n8 c8,.int .i64 lv,.bool false],.int .i64 0]) ?_ rfl ?_
      ·rw [results_cell_tmp rfl]; go_simp
      ·exact call_end1 HV8.out HB8.out HD8.out HX8.out _ _ _ _
set_option maxRecDepth 100000 in
set_option maxHeartbeats 4000000 in
theorem call4_go (a:Option Addr) (n c:Nat) (d:Dk) (nm more:ByteArray) (w:World) (h:DkAt w a n c d) (hs:nm.size≤maxLen) (hs2:more.size≤2097152) (hz:readyD d [nm]=0) :
 Calls Tryz.prog 111 #[d.val a n c,.int .i64 4,.string nm,.string more] w (RetDk w (removeD d nm)):=by
 have hmf:∀ fn first cap w,(Instr.makeFunc fn first cap).run Tryz.prog w = .ok (.func fn first cap) w:=fun _ _ _ _=>rfl
 obtain⟨hR,hN,hD⟩:=ready_parts hz
 have hn8:n≤8:=by have:=(rightD_nums hR).2.1; have:=h.len; omega
 have HNUM:=Lib.hid (rightD_nums hR)
 have HSZR:=Lib.hid (rightD_size hR)
 have HLEN:=Lib.hid h.len
 have HB0:=Lib.hid (call_below w d a n c)
 have HP0:=Lib.hid (call_box w d a n c)
 have HO0:=Lib.hid (call_out w d a n c)
 have HN0:=Lib.hid (call_none w d a n c)
 have HZ:=Lib.hid (call_size w d a n c)
 have hrt:=Lib.hid (fun (W:World) (hb:Below w.heap.size w W)=>refRight_any a n c d W (h.keep hb) true (Lib.hid hR.symm))
 have hnm:=Lib.hid (refName_any nm hs · true (Lib.hid (by have h1:=hN; simp at h1; first | exact h1.symm | exact h1.1.symm)))
 have hm2:more.size≤maxLen:=by unfold maxLen; omega
 obtain⟨k0,hk0⟩:∃ k0,k0=atL d.files nm:=⟨_,rfl⟩
 have hat:=Lib.hid (fun (W:World) (hb:Below w.heap.size w W)=>refAt_any a n c d nm W (h.keep hb) k0 (Lib.hid hk0))
 have H:=Lib.hid h
 have HRT:=Lib.hid hR
 have HZR:=Lib.hid hz
 have HK0:=Lib.hid hk0
 clear h hR hN hz hk0
 unfold callW at *
 obtain⟨rm,l,lf,dn⟩:=d
 unfold Dk.val at *
 dsimp only at *
 obtain rfl:dn=false:=hD
 go_enter Tryz.func111,Tryz.ntmps111
 go_wp2_with fail
 refine (hrt.out _ HB0.out).mono ?_
 rintro e w1 ⟨rfl,hb1⟩
 have HB1:=Lib.hid (below_then HB0.out hb1 HB0.out.size)
 have HP1:=Lib.hid (Four.keep HP0.out hb1)
 have HO1:=Lib.hid (Four.keep HO0.out hb1)
 have HN1:=Lib.hid (Four.keep HN0.out hb1)
 have hz1:w.heap.size+3≤w1.heap.size:=by have h1:=hb1.size; rw [HZ.out] at h1; exact h1
 have HZ1:=Lib.hid hz1
 clear hb1 HB0 HP0 HO0 HN0 hrt HZ hz1
 go_wp2_with fail
 refine (hnm.out _).mono ?_
 rintro e w2 ⟨rfl,rfl⟩
 have p:=HP1.out
 have p0:=p.c0; have p1:=p.c1; have p2:=p.c2; have p3:=p.c3
 clear p
 go_wp2_with fail
 refine (hat.out w1 HB1.out).mono ?_
 rintro e w3 ⟨rfl,hb3⟩
 clear p0 p1 p2 p3 hat hnm
 have HB3:=Lib.hid (below_then HB1.out hb3 HB1.out.size)
 have HP3:=Lib.hid (Four.keep HP1.out hb3)
 have HO3:=Lib.hid (Four.keep HO1.out hb3)
 have HN3:=Lib.hid (Four.keep HN1.out hb3)
 have hz3:w.heap.size+3≤w3.heap.size:=Nat.le_trans HZ1.out hb3.size
 obtain⟨fb,hfb⟩:∃ fb,fb=w3.heap.size:=⟨_,rfl⟩
 have HZF:Hid (w.heap.size+3≤fb):=Lib.hid (by omega)
 have HFB:=Lib.hid hfb
 have HSL3:=Lib.hid (H.out.keep (HB3.out.alloc HB3.out.size (.cells #[.string nm,.string ⟨#[]⟩,.string ⟨#[]⟩] 55))).sl
 clear hb3 HB1 HP1 HO1 HN1 hz3 hfb HZ1
 obtain⟨x1,x2,hfo⟩:=fileOf_eta l nm
 have hxs:x1.size+x2.size≤1048576:=by have h1:=fileOf_size l nm; rw [hfo] at h1; dsimp only at h1; have h2:=HSZR.out.2; have h3:=HNUM.out.1; omega
 have HFO:=Lib.hid hfo
 go_upto_if 43 with fail
 go_cut [11] (fun v wx=>v = .int .i64 k0∧Hid (Below w.heap.size w wx)∧Hid (Four wx w.heap.size 38 (.int .i64 rm) (.slice a n c) (.int .i64 lf) (.bool false))∧Hid (outBox wx (w.heap.size+1))∧Hid (outBox wx (w.heap.size+2))∧Hid (Three wx fb (.string nm) (.string x1) (.string x2)))
 case first =>
  by_cases h0:k0<0
  ·obtain⟨-,h2,-⟩:=atL_no (HK0.out ▸ h0)
   obtain⟨rfl,rfl⟩:x1=⟨#[]⟩∧x2=⟨#[]⟩:=by rw [h2] at hfo; injection hfo with e1 e2 e3; exact⟨e2.symm,e3.symm⟩
   clear hfo h2 hxs HFO
   go_wp2_with fail
   go_meet
   exact⟨rfl,Lib.hid (HB3.out.alloc HB3.out.size _),Lib.hid (Four.alloc HP3.out _),Lib.hid (Four.alloc HO3.out _),Lib.hid (Four.alloc HN3.out _),Lib.hid (HFB.out ▸ Three.new w3 _ _ _)⟩
  ·obtain⟨k,hk,h2,h3,h4⟩:=atL_lt (HK0.out ▸ h0)
   obtain rfl:k0=(k:Int):=HK0.out.trans h2
   have hkn:k<n:=by have:=HLEN.out; omega
   have hki:(k:Int)<(n:Int):=by omega
   obtain⟨-,b,off,rfl,hcells⟩:=fl_at HSL3.out (by omega)
   obtain⟨c0,c1,c2⟩:=hcells k hk
   rw [h4] at hfo
   rw [hfo] at c0 c1 c2
   clear hxs HFO
   have p:=Four.alloc HP3.out (.cells #[.string nm,.string ⟨#[]⟩,.string ⟨#[]⟩] 55)
   have p0:=p.c0; have p1:=p.c1; have p2:=p.c2; have p3:=p.c3
   clear p hcells h2 h3 h4 hfo
   go_wp2_with fail
   go_meet
   exact⟨rfl,Lib.hid (HB3.out.alloc HB3.out.size _),Lib.hid (Four.alloc HP3.out _),Lib.hid (Four.alloc HO3.out _),Lib.hid (Four.alloc HN3.out _),Lib.hid (HFB.out ▸ Three.new w3 _ _ _)⟩
 case rest =>
  obtain⟨rfl,HB4,HP4,HO4,HN4,HF4⟩:=hcut
  rw [← HFB.out]
  clear HB3 HP3 HO3 HN3 HSL3 HFB
  go_upto_region 10 with fail
  refine wp_region_bel (by kernel_rfl) (by kernel_rfl) ?_
  repeat (go_big_quiet_step (fail))
  refine wpQuiet_nil ?_
  intro W5 hw'
  obtain⟨⟨W8,hW5⟩,he⟩:=hw'
  change W5=W8 at he
  subst he
  have HB5:=Lib.hid (below_then HB4.out hW5 HB4.out.size)
  have HP5:=Lib.hid (Four.keep HP4.out hW5)
  have HO5:=Lib.hid (Four.keep HO4.out hW5)
  have HN5:=Lib.hid (Four.keep HN4.out hW5)
  have HF5:=Lib.hid (Three.keep HF4.out hW5)
  clear hW5 HB4 HP4 HO4 HN4 HF4
  by_cases h0:k0<0
  ·have hv:removeD ⟨rm,l,lf,false⟩ nm=(Dk.zero,60):=by unfold removeD; rw [if_neg (by simp [HZR.out]),if_pos (HK0.out ▸ h0)]
   have q:=HN5.out
   have q0:=q.c0
   have q1:=q.c1
   have q2:=q.c2
   have q3:=q.c3
   have o:=HO5.out
   have o0:=o.c0
   have o1:=o.c1
   have o2:=o.c2
   have o3:=o.c3
   have of0:=o.free 0
   have of1:=o.free 1
   have of2:=o.free 2
   have of3:=o.free 3
   clear q o
   go_wp2_with fail
   refine bodyPost_ret (v:=.tuple #[.agg #[.int .i64 0,.slice none 0 0,.int .i64 0,.bool false],.int .i64 60]) ?_ rfl ?_
   ·rw [results_cell_tmp rfl]; go_simp
   ·first | exact RetDk.zero4 60 _ HB5.out (by omega) | (rw [hv]; exact RetDk.zero4 60 _ HB5.out (by omega))
  have hv:removeD ⟨rm,l,lf,false⟩ nm=doneD ⟨rm,l,lf,false⟩ (without l nm) l:=by unfold removeD; rw [if_neg (by simp [HZR.out]),if_neg (HK0.out ▸ h0)]
  have hright:=remove_right (d:=⟨rm,l,lf,false⟩) (nm:=nm)
  rw [hv] at hright
  have HV:=Lib.hid hv
  have HRR:=Lib.hid hright
  clear hv hright
  have hl1:-1≤lf∧lf≤1073741824:=HNUM.out.2.2
  have hwl:IntKind.i64.wrap (lf - 1)=lf - 1:=by rw [IntKind.wrap_i64]; omega
  obtain⟨off,hoff⟩:∃ off,off=decide (lf=0):=⟨_,rfl⟩
  obtain⟨lv,hlv⟩:∃ lv,lv=leftD ⟨rm,l,lf,false⟩:=⟨_,rfl⟩
  obtain⟨ob,hob⟩:∃ ob,ob=W5.heap.size:=⟨_,rfl⟩
  have HZO:Hid (fb<ob):=Lib.hid (by rw [hob]; exact lt_of_block HF5.out)
  have HOB:=Lib.hid hob
  have HOFF:=Lib.hid hoff
  have HLV:=Lib.hid hlv
  clear hob hoff hlv
  have p:=HP5.out
  have p0:=p.c0
  have p1:=p.c1
  have p2:=p.c2
  have p3:=p.c3
  have r:=Four.alloc HP5.out (.cells #[.int .i64 rm,.slice a n c,.int .i64 lf,.bool false] 38)
  have r0:=r.c0
  have r1:=r.c1
  have r2:=r.c2
  have r3:=r.c3
  clear p r
  have hte0:=HF5.out.c2
  go_upto_if 100 with fail
  go_cut [14] (fun v wx=>v = .bool off∧Hid (Below w.heap.size w wx)∧Hid (Four wx w.heap.size 38 (.int .i64 rm) (.slice a n c) (.int .i64 lf) (.bool false))∧Hid (outBox wx (w.heap.size+1))∧Hid (Three wx fb (.string nm) (.string x1) (.string x2))∧Hid (Four wx ob 38 (.int .i64 rm) (.slice a n c) (.int .i64 lv) (.bool false)))
  case first =>
   by_cases hl:0<lf
   ·obtain rfl:lv=lf - 1:=by rw [HLV.out]; exact if_pos hl
    obtain rfl:off=false:=by rw [HOFF.out]; exact decide_eq_false (by omega)
    have hl0:(lf==0)=false:=by simp; omega
    go_wp2_with fail
    go_meet
    exact⟨by first | rfl | rw [hl0],Lib.hid (HB5.out.alloc HB5.out.size _),Lib.hid (Four.alloc HP5.out _),Lib.hid (Four.alloc HO5.out _),Lib.hid (Three.alloc HF5.out _),Lib.hid (HOB.out ▸ Four.new W5 _ _ _ _ _)⟩
   ·obtain rfl:lf=lv:=by rw [HLV.out]; exact (if_neg hl).symm
    by_cases hl2:lf=0
    ·subst hl2
     obtain rfl:off=true:=by rw [HOFF.out]; rfl
     go_wp2_with fail
     go_meet
     exact⟨by first | rfl | rw [hl0],Lib.hid (HB5.out.alloc HB5.out.size _),Lib.hid (Four.alloc HP5.out _),Lib.hid (Four.alloc HO5.out _),Lib.hid (Three.alloc HF5.out _),Lib.hid (HOB.out ▸ Four.new W5 _ _ _ _ _)⟩
    ·obtain rfl:off=false:=by rw [HOFF.out]; exact decide_eq_false hl2
     have hl0:(lf==0)=false:=by simp; omega
     go_wp2_with fail
     go_meet
     exact⟨by first | rfl | rw [hl0],Lib.hid (HB5.out.alloc HB5.out.size _),Lib.hid (Four.alloc HP5.out _),Lib.hid (Four.alloc HO5.out _),Lib.hid (Three.alloc HF5.out _),Lib.hid (HOB.out ▸ Four.new W5 _ _ _ _ _)⟩
  case rest =>
   obtain⟨rfl,HB6,HP6,HO6,HF6,HQ6⟩:=hcut
   rw [← HOB.out]
   clear HB5 HP5 HO5 HF5 HOB p0 p1 p2 p3 r0 r1 r2 r3 hte0 hwl
   have hzo:fb<ob:=HZO.out
   have hzf:w.heap.size+3≤fb:=HZF.out
   cases off with
   | true =>
     obtain rfl:lf=0:=of_decide_eq_true HOFF.out.symm
     obtain rfl:lv=0:=HLV.out
     have hv:removeD ⟨rm,l,0,false⟩ nm=(⟨rm,l,0,true⟩,132):=HV.out.trans (if_pos rfl)
     have HV8:=Lib.hid hv
     clear hv
     have o:=HO6.out
     have o0:=o.c0
     have o1:=o.c1
     have o2:=o.c2
     have o3:=o.c3
     have q:=HQ6.out
     have q0:=q.c0
     have q1:=q.c1
     have q2:=q.c2
     have q3:=q.c3
     have of0:=o.free 0
     have of1:=o.free 1
     have of2:=o.free 2
     have of3:=o.free 3
     have qf0:=q.free 0
     have qf1:=q.free 1
     have qf2:=q.free 2
     have qf3:=q.free 3
     clear o q
     go_wp2_with fail
     refine bodyPost_ret (v:=.tuple #[.agg #[.int .i64 rm,.slice a n c,.int .i64 0,.bool true],.int .i64 132]) ?_ rfl ?_
     ·rw [results_cell_tmp rfl]; go_simp
     ·exact call_end0 (d:=⟨rm,l,0,false⟩) HV8.out (HB6.out.setCell (p:=⟨ob,3,none⟩) (by simp; omega) (.bool true)) H.out (by omega) _ _ _ _
   | false =>
     have hl0:lf≠0:=of_decide_eq_false HOFF.out.symm
     have hv:removeD ⟨rm,l,lf,false⟩ nm=(⟨rm,without l nm,lv,false⟩,0):=HV.out.trans (by rw [HLV.out]; exact if_neg hl0)
     have hr8:rightD ⟨rm,without l nm,lv,false⟩=true:=by have h1:=HRR.out; rw [← HV.out,hv] at h1; exact h1
     have HV8:=Lib.hid hv
     have HR8:=Lib.hid hr8
     clear hv hr8 hl0
     have p:=HP6.out
     have p0:=p.c0
     have p1:=p.c1
     have p2:=p.c2
     have p3:=p.c3
     have q:=HQ6.out
     have q0:=q.c0
     have q1:=q.c1
     have q2:=q.c2
     have q3:=q.c3
     have qf0:=q.free 0
     have qf1:=q.free 1
     have qf2:=q.free 2
     have qf3:=q.free 3
     have p:=HP6.out
     have p0:=p.c0
     have p1:=p.c1
     have p2:=p.c2
     have p3:=p.c3
     have q:=HQ6.out
     have q0:=q.c0
     have q1:=q.c1
     have q2:=q.c2
     have q3:=q.c3
     have qf0:=q.free 0
     have qf1:=q.free 1
     have qf2:=q.free 2
     have qf3:=q.free 3
     clear p q
     have HB7:=Lib.hid (HB6.out.setCell (p:=⟨ob,3,none⟩) (by simp; omega) (.bool false))
     have HO7:=Lib.hid (Four.setT (o:=3) HO6.out (show w.heap.size+1≠ob by omega) (.bool false))
     have HP7:=Lib.hid (Four.setT (o:=3) HP6.out (show w.heap.size≠ob by omega) (.bool false))
     have HQ7:=Lib.hid (Four.set3 HQ6.out (.bool false))
     have HF7:=Lib.hid (Three.setT (o:=3) HF6.out (show fb≠ob by omega) (.bool false))
     have HSL7:=Lib.hid (H.out.keep HB7.out).sl
     go_wp2_with fail
     refine (refWithout_any a n c l nm _ HSL7.out (by omega)).mono ?_
     rintro e w8 ⟨v8,rfl,hown⟩
     obtain⟨a8,n8,c8,rfl,hd8,hx8⟩:=DkAt.own (d:=⟨rm,without l nm,lv,false⟩) hown HR8.out
     have HD8:=Lib.hid hd8
     have HX8:Hid (∀ p,a8=some p→p.block≠w.heap.size+1∧p.block≠ob):=Lib.hid (fun p hp=>by have h1:=hx8 p hp; have h2:=lt_of_block HQ7.out; omega)
     have HB8:=Lib.hid (below_then HB7.out hown.2 HB7.out.size)
     have HO8:=Lib.hid (Four.keep HO7.out hown.2)
     have HQ8:=Lib.hid (Four.keep HQ7.out hown.2)
     clear hown hd8 hx8 p0 p1 p2 p3 q0 q1 q2 q3 qf0 qf1 qf2 qf3
     have o:=HO8.out
     have o0:=o.c0
     have o1:=o.c1
     have o2:=o.c2
     have o3:=o.c3
     have q:=HQ8.out
     have q0:=q.c0
     have q1:=q.c1
     have q2:=q.c2
     have q3:=q.c3
     have of0:=o.free 0
     have of1:=o.free 1
     have of2:=o.free 2
     have of3:=o.free 3
     have qf0:=q.free 0
     have qf1:=q.free 1
     have qf2:=q.free 2
     have qf3:=q.free 3
     clear o q
     go_wp2_with fail
     refine bodyPost_ret (v:=.tuple #[.agg #[.int .i64 rm,.slice a8 n8 c8,.int .i64 lv,.bool false],.int .i64 0]) ?_ rfl ?_
     ·rw [results_cell_tmp rfl]; go_simp
     ·exact call_end HV8.out HB8.out HD8.out HX8.out (by omega) _ _ _ _
end Go.Proofs.YtlpgbmaoenncjaaGreatDoor

namespace Go.Proofs.YtlpgbmaoenncjaaGreatDoor
open Go.RowKit Go.BigFrame
set_option linter.unusedVariables false
set_option maxRecDepth 100000
theorem ready_bad {d:Dk}{nms:List ByteArray}(h:rightD d=false∨nms.all nmOk=false):readyD d nms=1:=by unfold readyD; rw [if_pos h]
theorem ready_off {d:Dk}{nms:List ByteArray}(h:rightD d=true) (h2:nms.all nmOk=true) (h3:d.down=true):readyD d nms=132:=by unfold readyD; rw [if_neg (by simp [h,h2]),if_pos h3]
theorem call1_any (a:Option Addr) (n c:Nat) (d:Dk) (nm more:ByteArray) (w:World) (h:DkAt w a n c d) (hs:nm.size≤maxLen) (hs2:more.size≤2097152) :
 Calls Tryz.prog 111 #[d.val a n c,.int .i64 1,.string nm,.string more] w (RetDk w (writeD d nm more)):=by
 have hs3:more.size≤maxLen:=by unfold maxLen; omega
 have hno:∀ x,readyD d [nm]=x→x≠0→writeD d nm more=(Dk.zero,x):=fun x h1 h2=>by unfold writeD; rw [h1,if_pos h2]
 cases hr:rightD d with
 | false=>rw [hno 1 (ready_bad (.inl hr)) (by decide)]; exact call1_wrong a n c d nm more w h hs hs3 hr
 | true =>
   cases hn:nmOk nm with
   | false=>rw [hno 1 (ready_bad (.inr (by simp [hn]))) (by decide)]; exact call1_name a n c d nm more w h hs hs3 hr hn
   | true =>
     cases hd:d.down with
     | true=>rw [hno 132 (ready_off hr (by simp [hn]) hd) (by decide)]; exact call1_down a n c d nm more w h hs hs3 hr hn hd
     | false=>exact call1_go a n c d nm more w h hs hs2 (by unfold readyD; rw [if_neg (by simp [hr,hn]),if_neg (by simp [hd])])
theorem call2_any (a:Option Addr) (n c:Nat) (d:Dk) (nm more:ByteArray) (w:World) (h:DkAt w a n c d) (hs:nm.size≤maxLen) (hs2:more.size≤2097152) :
 Calls Tryz.prog 111 #[d.val a n c,.int .i64 2,.string nm,.string more] w (RetDk w (syncD d nm)):=by
 have hs3:more.size≤maxLen:=by unfold maxLen; omega
 have hno:∀ x,readyD d [nm]=x→x≠0→syncD d nm=(Dk.zero,x):=fun x h1 h2=>by unfold syncD; rw [h1,if_pos h2]
 cases hr:rightD d with
 | false=>rw [hno 1 (ready_bad (.inl hr)) (by decide)]; exact call2_wrong a n c d nm more w h hs hs3 hr
 | true =>
   cases hn:nmOk nm with
   | false=>rw [hno 1 (ready_bad (.inr (by simp [hn]))) (by decide)]; exact call2_name a n c d nm more w h hs hs3 hr hn
   | true =>
     cases hd:d.down with
     | true=>rw [hno 132 (ready_off hr (by simp [hn]) hd) (by decide)]; exact call2_down a n c d nm more w h hs hs3 hr hn hd
     | false=>exact call2_go a n c d nm more w h hs hs2 (by unfold readyD; rw [if_neg (by simp [hr,hn]),if_neg (by simp [hd])])
theorem call3_any (a:Option Addr) (n c:Nat) (d:Dk) (nm more:ByteArray) (w:World) (h:DkAt w a n c d) (hs:nm.size≤maxLen) (hs2:more.size≤2097152) :
 Calls Tryz.prog 111 #[d.val a n c,.int .i64 3,.string nm,.string more] w (RetDk w (renameD d nm more)):=by
 have hs3:more.size≤maxLen:=by unfold maxLen; omega
 have hno:∀ x,readyD d [nm,more]=x→x≠0→renameD d nm more=(Dk.zero,x):=fun x h1 h2=>by unfold renameD; rw [h1,if_pos h2]
 cases hr:rightD d with
 | false=>rw [hno 1 (ready_bad (.inl hr)) (by decide)]; exact call3_wrong a n c d nm more w h hs hs3 hr
 | true =>
   cases hn:nmOk nm with
   | false=>rw [hno 1 (ready_bad (.inr (by simp [hn]))) (by decide)]; exact call3_name a n c d nm more w h hs hs3 hr hn
   | true =>
     cases hm:nmOk more with
     | false=>rw [hno 1 (ready_bad (.inr (by simp [hn,hm]))) (by decide)]; exact call3_more a n c d nm more w h hs hs3 hr hn hm
     | true =>
       cases hd:d.down with
       | true=>rw [hno 132 (ready_off hr (by simp [hn,hm]) hd) (by decide)]; exact call3_down a n c d nm more w h hs hs3 hr hn hm hd
       | false=>exact call3_go a n c d nm more w h hs hs2 (by unfold readyD; rw [if_neg (by simp [hr,hn,hm]),if_neg (by simp [hd])])
theorem call4_any (a:Option Addr) (n c:Nat) (d:Dk) (nm more:ByteArray) (w:World) (h:DkAt w a n c d) (hs:nm.size≤maxLen) (hs2:more.size≤2097152) :
 Calls Tryz.prog 111 #[d.val a n c,.int .i64 4,.string nm,.string more] w (RetDk w (removeD d nm)):=by
 have hs3:more.size≤maxLen:=by unfold maxLen; omega
 have hno:∀ x,readyD d [nm]=x→x≠0→removeD d nm=(Dk.zero,x):=fun x h1 h2=>by unfold removeD; rw [h1,if_pos h2]
 cases hr:rightD d with
 | false=>rw [hno 1 (ready_bad (.inl hr)) (by decide)]; exact call4_wrong a n c d nm more w h hs hs3 hr
 | true =>
   cases hn:nmOk nm with
   | false=>rw [hno 1 (ready_bad (.inr (by simp [hn]))) (by decide)]; exact call4_name a n c d nm more w h hs hs3 hr hn
   | true =>
     cases hd:d.down with
     | true=>rw [hno 132 (ready_off hr (by simp [hn]) hd) (by decide)]; exact call4_down a n c d nm more w h hs hs3 hr hn hd
     | false=>exact call4_go a n c d nm more w h hs hs2 (by unfold readyD; rw [if_neg (by simp [hr,hn]),if_neg (by simp [hd])])
theorem refCall_any (a:Option Addr) (n c:Nat) (d:Dk) (what:Int) (nm more:ByteArray) (w:World) (h:DkAt w a n c d) (hw:1≤what∧what≤4) (hs:nm.size≤maxLen) (hs2:more.size≤2097152) :
 Calls Tryz.prog 111 #[d.val a n c,.int .i64 what,.string nm,.string more] w (RetDk w (callD d what nm more)):=by
 obtain rfl | rfl | rfl | rfl:what=1∨what=2∨what=3∨what=4:=by omega
 ·exact call1_any a n c d nm more w h hs hs2
 ·exact call2_any a n c d nm more w h hs hs2
 ·exact call3_any a n c d nm more w h hs hs2
 ·exact call4_any a n c d nm more w h hs hs2
end Go.Proofs.YtlpgbmaoenncjaaGreatDoor

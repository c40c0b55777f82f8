/-
  Messages in memory; the walks of the reference's LikeMsg at messages that are one, and of both May: new blocks alone are made; the slices within reach.
-/
import Derived.Test.YtlpgbmaoenncjaaGreatDoorNmC
import Derived.BigRegion
import Derived.Deep.DeepCutAuto
namespace Go.Proofs.YtlpgbmaoenncjaaGreatDoor
open Go.RowKit
set_option linter.unusedVariables false
def i64R (n:Int):Prop:=-9223372036854775808≤n∧n≤9223372036854775807
def Ms.cells (m:Ms) (ar:Option Addr) (nr cr:Nat) (av:Option Addr) (nv cv:Nat):List Value :=
 [.int .i64 m.kind,.int .i64 m.fr,.int .i64 m.dst,.int .i64 m.term,.bool m.ok,.int .i64 m.index,.int .i64 m.logTerm,.slice ar nr cr,.int .i64 m.commit,.string m.snap,.slice av nv cv]
def Ms.val (m:Ms) (ar:Option Addr) (nr cr:Nat) (av:Option Addr) (nv cv:Nat):Value :=
 .agg #[.int .i64 m.kind,.int .i64 m.fr,.int .i64 m.dst,.int .i64 m.term,.bool m.ok,.int .i64 m.index,.int .i64 m.logTerm,.slice ar nr cr,.int .i64 m.commit,.string m.snap,.slice av nv cv]
structure MsAt (w:World) (m:Ms) (ar:Option Addr) (nr cr:Nat) (av:Option Addr) (nv cv:Nat):Prop where
 recs:rcE.Sl w ar nr m.recs
 voters:SlAt w av nv (i64s m.voters)
 nr:nr≤100000000000000
 nv:nv≤100000000000000
 data:∀ r∈m.recs,r.data.size≤maxLen∧i64R r.term∧i64R r.kind
 snap:m.snap.size≤maxLen
 nums:i64R m.kind∧i64R m.fr∧i64R m.dst∧i64R m.term∧i64R m.index∧i64R m.logTerm∧i64R m.commit
 vots:∀ x∈m.voters,i64R x
theorem MsAt.keep {w w':World}{m:Ms}{ar:Option Addr}{nr cr:Nat}{av:Option Addr}{nv cv:Nat}(h:MsAt w m ar nr cr av nv cv) (hb:Below w.heap.size w w'):MsAt w' m ar nr cr av nv cv :=
 { h with recs:=h.recs.keep hb,voters:=h.voters.keep hb }
theorem MsAt.rlen {w:World}{m:Ms}{ar:Option Addr}{nr cr:Nat}{av:Option Addr}{nv cv:Nat}(h:MsAt w m ar nr cr av nv cv):nr=m.recs.length:=h.recs.1
theorem MsAt.vlen {w:World}{m:Ms}{ar:Option Addr}{nr cr:Nat}{av:Option Addr}{nv cv:Nat}(h:MsAt w m ar nr cr av nv cv):nv=m.voters.length:=by have:=h.voters.1; rw [i64s_length] at this; exact this
set_option maxRecDepth 100000 in
set_option maxHeartbeats 2000000 in
theorem likeMsg_same (b b' c c':Nat) (m:Ms) (ar:Option Addr) (nr cr:Nat) (av:Option Addr) (nv cv:Nat) (ar':Option Addr) (nr' cr':Nat) (av':Option Addr) (nv' cv':Nat) (w:World)
 (h:MsAt w m ar nr cr av nv cv) (h':MsAt w m ar' nr' cr' av' nv' cv') (hb:Blk w b 25 (m.cells ar nr cr av nv cv)) (hb':Blk w b' 25 (m.cells ar' nr' cr' av' nv' cv')) :
 Calls Tryz.prog 17 #[.slice (some ⟨b,0,none⟩) 1 c,.slice (some ⟨b',0,none⟩) 1 c'] w fun e w'=>e = .returned (.bool true)∧Below w.heap.size w w':=by
 have H:=Lib.hid h
 have H':=Lib.hid h'
 have HB:=Lib.hid hb
 have HB':=Lib.hid hb'
 have hi:=Lib.hid (fun (W:World) (hw:Below w.heap.size w W)=>ints_same av av' nv cv nv' cv' m.voters W (h.voters.keep hw) (h'.voters.keep hw) h.nv)
 have hr:=Lib.hid (fun (W:World) (hw:Below w.heap.size w W)=>recs_same ar ar' nr cr nr' cr' m.recs W (h.recs.keep hw) (h'.recs.keep hw) h.nr)
 clear h h' hb hb'
 obtain⟨kd,fr,ds,tm,ok,ix,lt,rs,cm,sn,vs⟩:=m
 unfold Ms.cells at *
 dsimp only at *
 go_enter Tryz.func17,Tryz.ntmps17
 go_wp2_with fail
 go_loopg [5,6,7,15] 2 (fun gk v5 v6 v7 i wr=>(gk=2∧i = .int .i64 0∨gk=1∧i = .int .i64 1)∧Hid (Below w.heap.size w wr))
 case atStart=>exact⟨.inl ⟨rfl,rfl⟩,Lib.hid (Below.refl _ _)⟩
 case round =>
  obtain⟨⟨rfl,rfl⟩ | ⟨rfl,rfl⟩,hB⟩:=hrel
  ·have hx:=HB.out.keep hB.out
   have hy:=(HB'.out.keep hB.out).alloc (.cells #[.int .i64 kd,.int .i64 fr,.int .i64 ds,.int .i64 tm,.bool ok,.int .i64 ix,.int .i64 lt,.slice ar nr cr,.int .i64 cm,.string sn,.slice av nv cv] 25)
   have x0:=hx.cell (j:=0) rfl; have x1:=hx.cell (j:=1) rfl; have x2:=hx.cell (j:=2) rfl; have x3:=hx.cell (j:=3) rfl; have x4:=hx.cell (j:=4) rfl; have x5:=hx.cell (j:=5) rfl; have x6:=hx.cell (j:=6) rfl; have x7:=hx.cell (j:=7) rfl; have x8:=hx.cell (j:=8) rfl; have x9:=hx.cell (j:=9) rfl; have x10:=hx.cell (j:=10) rfl
   have y0:=hy.cell (j:=0) rfl; have y1:=hy.cell (j:=1) rfl; have y2:=hy.cell (j:=2) rfl; have y3:=hy.cell (j:=3) rfl; have y4:=hy.cell (j:=4) rfl; have y5:=hy.cell (j:=5) rfl; have y6:=hy.cell (j:=6) rfl; have y7:=hy.cell (j:=7) rfl; have y8:=hy.cell (j:=8) rfl; have y9:=hy.cell (j:=9) rfl; have y10:=hy.cell (j:=10) rfl
   clear hx hy
   have HA1:=Lib.hid (hB.out.alloc hB.out.size (.cells #[.int .i64 kd,.int .i64 fr,.int .i64 ds,.int .i64 tm,.bool ok,.int .i64 ix,.int .i64 lt,.slice ar nr cr,.int .i64 cm,.string sn,.slice av nv cv] 25))
   have HA2:=Lib.hid (HA1.out.alloc HA1.out.size (.cells #[.int .i64 kd,.int .i64 fr,.int .i64 ds,.int .i64 tm,.bool ok,.int .i64 ix,.int .i64 lt,.slice ar' nr' cr',.int .i64 cm,.string sn,.slice av' nv' cv'] 25))
   have e0:(kd != kd)=false:=by simp
   have e1:(fr != fr)=false:=by simp
   have e2:(ds != ds)=false:=by simp
   have e3:(tm != tm)=false:=by simp
   have e4:(ok != ok)=false:=by simp
   have e5:(ix != ix)=false:=by simp
   have e6:(lt != lt)=false:=by simp
   have e8:(cm != cm)=false:=by simp
   have e9:(sn.toList != sn.toList)=false:=by simp
   have HX6:Hid (Blk ((wr.alloc (.cells #[.int .i64 kd,.int .i64 fr,.int .i64 ds,.int .i64 tm,.bool ok,.int .i64 ix,.int .i64 lt,.slice ar nr cr,.int .i64 cm,.string sn,.slice av nv cv] 25)).alloc (.cells #[.int .i64 kd,.int .i64 fr,.int .i64 ds,.int .i64 tm,.bool ok,.int .i64 ix,.int .i64 lt,.slice ar' nr' cr',.int .i64 cm,.string sn,.slice av' nv' cv'] 25)) wr.heap.size 25 [.int .i64 kd,.int .i64 fr,.int .i64 ds,.int .i64 tm,.bool ok,.int .i64 ix,.int .i64 lt,.slice ar nr cr,.int .i64 cm,.string sn,.slice av nv cv]) :=
    Lib.hid (Blk.alloc (heap_alloc_new wr _) _)
   have HX7:Hid (Blk ((wr.alloc (.cells #[.int .i64 kd,.int .i64 fr,.int .i64 ds,.int .i64 tm,.bool ok,.int .i64 ix,.int .i64 lt,.slice ar nr cr,.int .i64 cm,.string sn,.slice av nv cv] 25)).alloc (.cells #[.int .i64 kd,.int .i64 fr,.int .i64 ds,.int .i64 tm,.bool ok,.int .i64 ix,.int .i64 lt,.slice ar' nr' cr',.int .i64 cm,.string sn,.slice av' nv' cv'] 25)) (wr.heap.size+1) 25 [.int .i64 kd,.int .i64 fr,.int .i64 ds,.int .i64 tm,.bool ok,.int .i64 ix,.int .i64 lt,.slice ar' nr' cr',.int .i64 cm,.string sn,.slice av' nv' cv']) :=
    Lib.hid (by
     have hz:=heap_alloc_new (wr.alloc (.cells #[.int .i64 kd,.int .i64 fr,.int .i64 ds,.int .i64 tm,.bool ok,.int .i64 ix,.int .i64 lt,.slice ar nr cr,.int .i64 cm,.string sn,.slice av nv cv] 25)) (.cells #[.int .i64 kd,.int .i64 fr,.int .i64 ds,.int .i64 tm,.bool ok,.int .i64 ix,.int .i64 lt,.slice ar' nr' cr',.int .i64 cm,.string sn,.slice av' nv' cv'] 25)
     rw [World.size_alloc] at hz
     exact hz)
   go_wp2_with fail
   refine (hi.out _ HA2.out).mono ?_
   rintro e w1 ⟨rfl,hb1⟩
   have HA3:=Lib.hid (below_then HA2.out hb1 HA2.out.size)
   have z7:=(HX6.out.keep hb1).cell (j:=7) rfl
   have u7':=(HX7.out.keep hb1).cell (j:=7) rfl
   clear hb1 HX6 HX7 x0 x1 x2 x3 x4 x5 x6 x7 x8 x9 x10 y0 y1 y2 y3 y4 y5 y6 y7 y8 y9 y10
   go_wp2_with fail
   refine (hr.out _ HA3.out).mono ?_
   rintro e w2 ⟨rfl,hb2⟩
   have HA4:=Lib.hid (below_then HA3.out hb2 HA3.out.size)
   clear hb2 z7 u7'
   go_wp2_with fail
   go_roundg 1
   case rel=>exact⟨.inr ⟨rfl,by go_num⟩,HA4⟩
   case measure=>omega
  ·go_wp2_with fail
   go_ret
   exact⟨rfl,hB.out⟩
end Go.Proofs.YtlpgbmaoenncjaaGreatDoor

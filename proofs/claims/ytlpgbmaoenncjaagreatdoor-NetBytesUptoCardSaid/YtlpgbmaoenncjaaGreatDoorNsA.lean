/-
  The walk of net.Seal: the packet of any message, or why it is refused; the slices within reach. (Written by wip/mknseal.py.)
-/
import Derived.Test.YtlpgbmaoenncjaaGreatDoorNpB
import Derived.Test.YtlpgbmaoenncjaaGreatDoorNtQ
import Derived.Test.YtlpgbmaoenncjaaGreatDoorFram
namespace Go.Proofs.YtlpgbmaoenncjaaGreatDoor
open Go.RowKit
set_option linter.unusedVariables false
theorem putM_size (m:Ms):(putM m).1.size≤131072:=by
 unfold putM putGot
 split
 ·split
  ·exact Nat.zero_le _
  ·split
   ·exact Nat.zero_le _
   ·rename_i h; show (ByteArray.size _)≤_; simp [ByteArray.size]; omega
 ·exact Nat.zero_le _
set_option maxRecDepth 100000 in
set_option maxHeartbeats 1000000 in
theorem nseal_any (m:Ms) (ar:Option Addr) (nr cr:Nat) (av:Option Addr) (nv cv:Nat) (w:World) (h:MsAt w m ar nr cr av nv cv) (htab:Lib.TabIs Tryz.prog w "internal/strconv.uint64pow10" .u64 Lib.pow10Tab) (g:ByteArray × Int) (hg:Hid (g=sealM m)) :
 Calls Tryz.prog 12 #[m.val ar nr cr av nv cv] w (fun e w'=>e = .returned (.tuple #[.string g.1,.int .i64 g.2])∧Below w.heap.size w w'):=by
 have hsz:=putM_size m
 obtain⟨p,hp⟩:∃ p,p=putM m:=⟨_,rfl⟩
 have HG:Hid (g=if p.2≠0 then (⟨#[]⟩,p.2) else if 65536<p.1.size then (⟨#[]⟩,2) else (frameOf p.1,0)):=Lib.hid (by rw [hg.out,hp]; rfl)
 rw [← hp] at hsz
 obtain⟨kd,fr,ds,tm,ok,ix,lt,rs,cm,sn,vs⟩:=m
 unfold Ms.val
 dsimp only
 have hb0:Below w.heap.size w (w.alloc (.cells #[.int .i64 kd,.int .i64 fr,.int .i64 ds,.int .i64 tm,.bool ok,.int .i64 ix,.int .i64 lt,.slice ar nr cr,.int .i64 cm,.string sn,.slice av nv cv] 25)):=(Below.refl w.heap.size w).alloc (Nat.le_refl _) _
 have HB0:=Lib.hid hb0
 have HK0:Hid (Blk (w.alloc (.cells #[.int .i64 kd,.int .i64 fr,.int .i64 ds,.int .i64 tm,.bool ok,.int .i64 ix,.int .i64 lt,.slice ar nr cr,.int .i64 cm,.string sn,.slice av nv cv] 25)) w.heap.size 25 [.int .i64 kd,.int .i64 fr,.int .i64 ds,.int .i64 tm,.bool ok,.int .i64 ix,.int .i64 lt,.slice ar nr cr,.int .i64 cm,.string sn,.slice av nv cv]):=Lib.hid (heap_alloc_new w _)
 have HP:=Lib.hid (show Calls Tryz.prog 10 #[.agg #[.int .i64 kd,.int .i64 fr,.int .i64 ds,.int .i64 tm,.bool ok,.int .i64 ix,.int .i64 lt,.slice ar nr cr,.int .i64 cm,.string sn,.slice av nv cv]] (w.alloc (.cells #[.int .i64 kd,.int .i64 fr,.int .i64 ds,.int .i64 tm,.bool ok,.int .i64 ix,.int .i64 lt,.slice ar nr cr,.int .i64 cm,.string sn,.slice av nv cv] 25)) _ from nput_any ⟨kd,fr,ds,tm,ok,ix,lt,rs,cm,sn,vs⟩ ar nr cr av nv cv _ (h.keep hb0) (Lib.tabBelow_of_tabIs htab _ hb0) p (Lib.hid hp))
 clear h hg hp htab hb0
 have x0:=HK0.out.cell (j:=0) rfl
 have x1:=HK0.out.cell (j:=1) rfl
 have x2:=HK0.out.cell (j:=2) rfl
 have x3:=HK0.out.cell (j:=3) rfl
 have x4:=HK0.out.cell (j:=4) rfl
 have x5:=HK0.out.cell (j:=5) rfl
 have x6:=HK0.out.cell (j:=6) rfl
 have x7:=HK0.out.cell (j:=7) rfl
 have x8:=HK0.out.cell (j:=8) rfl
 have x9:=HK0.out.cell (j:=9) rfl
 have x10:=HK0.out.cell (j:=10) rfl
 obtain⟨ps,pe⟩:=p
 dsimp only at *
 go_enter Tryz.func12,Tryz.ntmps12
 go_wp2_with fail
 refine HP.out.mono ?_
 rintro e w1 ⟨rfl,hb1⟩
 have HB1:=Lib.hid (below_then HB0.out hb1 HB0.out.size)
 clear hb1 x0 x1 x2 x3 x4 x5 x6 x7 x8 x9 x10 HP HK0 HB0
 dsimp only
 by_cases he:pe=0
 ·subst he
  have HG2:Hid (g=if 65536<ps.size then (⟨#[]⟩,2) else (frameOf ps,0)):=Lib.hid (by rw [HG.out,if_neg (by simp)])
  clear HG
  go_wp2_with fail
  by_cases hl:65536<ps.size
  ·refine (frPut_long ps w1 (by unfold maxLen; omega) hl).mono ?_
   rintro e w2 ⟨rfl,rfl⟩
   dsimp only
   go_wp2_with fail
   go_ret2
   exact⟨by rw [HG2.out,if_pos hl]; rfl,HB1.out⟩
  ·refine (frPut_any ps w1 (by omega)).mono ?_
   rintro e w2 ⟨rfl,hb2⟩
   have HB2:=Lib.hid (below_then HB1.out hb2 HB1.out.size)
   clear hb2
   dsimp only
   go_wp2_with fail
   go_ret2
   exact⟨by rw [HG2.out,if_neg hl]; rfl,HB2.out⟩
 ·have p1:(pe != 0)=true:=by simpa using he
  go_wp2_with fail
  go_ret2
  exact⟨by rw [HG.out,if_pos he]; rfl,HB1.out⟩
end Go.Proofs.YtlpgbmaoenncjaaGreatDoor

/-
  The walks of elect.May and of the reference's May, whole: which messages may be; new blocks alone are made; the slices within reach. (Written by wip/mkmayg.py.)
-/
import Derived.Test.YtlpgbmaoenncjaaGreatDoorNmEw
import Derived.Test.YtlpgbmaoenncjaaGreatDoorNmE5
import Derived.Test.YtlpgbmaoenncjaaGreatDoorNmE3t0
import Derived.Test.YtlpgbmaoenncjaaGreatDoorNmE3t1
import Derived.Test.YtlpgbmaoenncjaaGreatDoorNmE3t2
import Derived.Test.YtlpgbmaoenncjaaGreatDoorNmE3t3
import Derived.Test.YtlpgbmaoenncjaaGreatDoorNmF1
import Derived.Test.YtlpgbmaoenncjaaGreatDoorNmF2
import Derived.Test.YtlpgbmaoenncjaaGreatDoorNmF3
import Derived.Test.YtlpgbmaoenncjaaGreatDoorNmF4
import Derived.Test.YtlpgbmaoenncjaaGreatDoorNmF5
namespace Go.Proofs.YtlpgbmaoenncjaaGreatDoor
open Go.RowKit
set_option linter.unusedVariables false
set_option maxRecDepth 100000 in
set_option maxHeartbeats 1000000 in
theorem eMayX (kd fr ds tm ix lt cm:Int) (rs:List Rc) (sn:ByteArray) (vs:List Int) (ar:Option Addr) (nr cr:Nat) (av:Option Addr) (nv cv:Nat) (ok:Bool) (w:World) (hkd:¬ (1≤kd∧kd≤5)) (v:Bool) (hv:Hid (v=mayM ⟨kd,fr,ds,tm,ok,ix,lt,rs,cm,sn,vs⟩)) :
 Calls Tryz.prog 32 #[.agg #[.int .i64 kd,.int .i64 fr,.int .i64 ds,.int .i64 tm,.bool ok,.int .i64 ix,.int .i64 lt,.slice ar nr cr,.int .i64 cm,.string sn,.slice av nv cv]] w fun e w'=>e = .returned (.bool v)∧Below w.heap.size w w':=by
 have HB0:=Lib.hid (((Below.refl w.heap.size w).alloc (Nat.le_refl _) (.cells #[.int .i64 kd,.int .i64 fr,.int .i64 ds,.int .i64 tm,.bool ok,.int .i64 ix,.int .i64 lt,.slice ar nr cr,.int .i64 cm,.string sn,.slice av nv cv] 25)).alloc (by simp) (.cells #[.int .i64 kd,.int .i64 fr,.int .i64 ds,.int .i64 tm,.bool false,.int .i64 0,.int .i64 0,.slice none 0 0,.int .i64 0,.string ⟨#[]⟩,.slice none 0 0] 25))
 have HK0:Hid (Blk (w.alloc (.cells #[.int .i64 kd,.int .i64 fr,.int .i64 ds,.int .i64 tm,.bool ok,.int .i64 ix,.int .i64 lt,.slice ar nr cr,.int .i64 cm,.string sn,.slice av nv cv] 25)) w.heap.size 25 [.int .i64 kd,.int .i64 fr,.int .i64 ds,.int .i64 tm,.bool ok,.int .i64 ix,.int .i64 lt,.slice ar nr cr,.int .i64 cm,.string sn,.slice av nv cv]):=Lib.hid (heap_alloc_new w _)
 obtain rfl:v=false:=by rw [hv.out,mayM_Z]; exact decide_eq_false (fun hc=>hkd hc.1)
 clear hv
 have x0:=HK0.out.cell (j:=0) rfl
 have x1:=HK0.out.cell (j:=1) rfl
 have x2:=HK0.out.cell (j:=2) rfl
 have x3:=HK0.out.cell (j:=3) rfl
 have z0:=(HK0.out.alloc (.cells #[.int .i64 kd,.int .i64 fr,.int .i64 ds,.int .i64 tm,.bool false,.int .i64 0,.int .i64 0,.slice none 0 0,.int .i64 0,.string ⟨#[]⟩,.slice none 0 0] 25)).cell (j:=0) rfl
 have e1:(kd==1)=false:=by simp; omega
 have e2:(kd==2)=false:=by simp; omega
 have e3:(kd==3)=false:=by simp; omega
 have e4:(kd==4)=false:=by simp; omega
 have e5:(kd==5)=false:=by simp; omega
 clear hkd
 go_enter Tryz.func32,Tryz.ntmps32
 go_wp2_with fail
 go_ret
 exact⟨rfl,HB0.out⟩
theorem eMay_any (m:Ms) (ar:Option Addr) (nr cr:Nat) (av:Option Addr) (nv cv:Nat) (w:World) (h:MsAt w m ar nr cr av nv cv) (v:Bool) (hv:Hid (v=mayM m)) :
 Calls Tryz.prog 32 #[m.val ar nr cr av nv cv] w fun e w'=>e = .returned (.bool v)∧Below w.heap.size w w':=by
 obtain⟨kd,fr,ds,tm,ok,ix,lt,rs,cm,sn,vs⟩:=m
 unfold Ms.val
 dsimp only
 by_cases hkd:1≤kd∧kd≤5
 ·rcases (show kd=1∨kd=2∨kd=3∨kd=4∨kd=5 by omega) with rfl | rfl | rfl | rfl | rfl
  ·cases ok
   ·exact eMay1f fr ds tm ix lt cm rs sn vs ar nr cr av nv cv w h v hv
   ·exact eMay1t fr ds tm ix lt cm rs sn vs ar nr cr av nv cv w h v hv
  ·cases ok
   ·exact eMay2f fr ds tm ix lt cm rs sn vs ar nr cr av nv cv w h v hv
   ·exact eMay2t fr ds tm ix lt cm rs sn vs ar nr cr av nv cv w h v hv
  ·cases ok
   ·exact eMay3f fr ds tm ix lt cm rs sn vs ar nr cr av nv cv w h v hv
   ·exact eMay3t fr ds tm ix lt cm rs sn vs ar nr cr av nv cv w h v hv
  ·cases ok
   ·exact eMay4f fr ds tm ix lt cm rs sn vs ar nr cr av nv cv w h v hv
   ·exact eMay4t fr ds tm ix lt cm rs sn vs ar nr cr av nv cv w h v hv
  ·cases ok
   ·cases hrv:rightV vs
    ·exact eMay5ff fr ds tm ix lt cm rs sn vs ar nr cr av nv cv w hrv h v hv
    ·exact eMay5ft fr ds tm ix lt cm rs sn vs ar nr cr av nv cv w hrv h v hv
   ·cases hrv:rightV vs
    ·exact eMay5tf fr ds tm ix lt cm rs sn vs ar nr cr av nv cv w hrv h v hv
    ·exact eMay5tt fr ds tm ix lt cm rs sn vs ar nr cr av nv cv w hrv h v hv
 ·exact eMayX kd fr ds tm ix lt cm rs sn vs ar nr cr av nv cv ok w hkd v hv
theorem rMay_any (m:Ms) (ar:Option Addr) (nr cr:Nat) (av:Option Addr) (nv cv:Nat) (w:World) (h:MsAt w m ar nr cr av nv cv) (v:Bool) (hv:Hid (v=mayM m)) :
 Calls Tryz.prog 37 #[m.val ar nr cr av nv cv] w fun e w'=>e = .returned (.bool v)∧Below w.heap.size w w':=by
 obtain⟨kd,fr,ds,tm,ok,ix,lt,rs,cm,sn,vs⟩:=m
 unfold Ms.val
 dsimp only
 by_cases hkd:1≤kd∧kd≤5
 ·rcases (show kd=1∨kd=2∨kd=3∨kd=4∨kd=5 by omega) with rfl | rfl | rfl | rfl | rfl
  ·cases ok
   ·exact rMay1f fr ds tm ix lt cm rs sn vs ar nr cr av nv cv w h v hv
   ·exact rMay1t fr ds tm ix lt cm rs sn vs ar nr cr av nv cv w h v hv
  ·cases ok
   ·exact rMay2f fr ds tm ix lt cm rs sn vs ar nr cr av nv cv w h v hv
   ·exact rMay2t fr ds tm ix lt cm rs sn vs ar nr cr av nv cv w h v hv
  ·cases ok
   ·by_cases hsn:sn.size=0
    ·obtain rfl:=size0 hsn
     cases hbi:(ix != 0) <;> cases hbl:(lt != 0) <;> cases hbc:(cm != 0)
     ·exact rMay3ffff fr ds tm ix lt cm rs ⟨#[]⟩ vs ar nr cr av nv cv w hbi hbl hbc h v hv
     ·exact rMay3ffft fr ds tm ix lt cm rs ⟨#[]⟩ vs ar nr cr av nv cv w hbi hbl hbc h v hv
     ·exact rMay3fftf fr ds tm ix lt cm rs ⟨#[]⟩ vs ar nr cr av nv cv w hbi hbl hbc h v hv
     ·exact rMay3fftt fr ds tm ix lt cm rs ⟨#[]⟩ vs ar nr cr av nv cv w hbi hbl hbc h v hv
     ·exact rMay3ftff fr ds tm ix lt cm rs ⟨#[]⟩ vs ar nr cr av nv cv w hbi hbl hbc h v hv
     ·exact rMay3ftft fr ds tm ix lt cm rs ⟨#[]⟩ vs ar nr cr av nv cv w hbi hbl hbc h v hv
     ·exact rMay3fttf fr ds tm ix lt cm rs ⟨#[]⟩ vs ar nr cr av nv cv w hbi hbl hbc h v hv
     ·exact rMay3fttt fr ds tm ix lt cm rs ⟨#[]⟩ vs ar nr cr av nv cv w hbi hbl hbc h v hv
    ·exact rMay3fs fr ds tm ix lt cm rs sn vs ar nr cr av nv cv w hsn h v hv
   ·exact rMay3t fr ds tm ix lt cm rs sn vs ar nr cr av nv cv w h v hv
  ·cases ok
   ·exact rMay4f fr ds tm ix lt cm rs sn vs ar nr cr av nv cv w h v hv
   ·exact rMay4t fr ds tm ix lt cm rs sn vs ar nr cr av nv cv w h v hv
  ·cases ok
   ·cases hrv:rightV vs
    ·exact rMay5ff fr ds tm ix lt cm rs sn vs ar nr cr av nv cv w hrv h v hv
    ·exact rMay5ft fr ds tm ix lt cm rs sn vs ar nr cr av nv cv w hrv h v hv
   ·cases hrv:rightV vs
    ·exact rMay5tf fr ds tm ix lt cm rs sn vs ar nr cr av nv cv w hrv h v hv
    ·exact rMay5tt fr ds tm ix lt cm rs sn vs ar nr cr av nv cv w hrv h v hv
 ·exact rMayX kd fr ds tm ix lt cm rs sn vs ar nr cr av nv cv ok w hkd h v hv
end Go.Proofs.YtlpgbmaoenncjaaGreatDoor

/-
  The walks of net.whole and of the function value that net.Get reads numbers with; the numbers such as an int64 holds.
-/
import Derived.Test.YtlpgbmaoenncjaaGreatDoorPvs
import Derived.Test.YtlpgbmaoenncjaaGreatDoorGen
import Derived.BigRegion
namespace Go.Proofs.YtlpgbmaoenncjaaGreatDoor
open Go.RowKit
set_option linter.unusedVariables false
set_option maxRecDepth 100000 in
set_option maxHeartbeats 1000000 in
theorem nwhole_any (k n:Int) (s:ByteArray) (a:Option Addr) (l c:Nat) (w:World) (v:Int) (hv:Hid (v=cl n)) (b:Bool) (hb:Hid (b=decide (k=1))) :
 Calls Tryz.prog 44 #[.agg #[.int .i64 k,.int .i64 n,.string s,.slice a l c]] w (fun e w'=>e = .returned (.tuple #[.int .i64 v,.bool b])∧Below w.heap.size w w'):=by
 have HB:=Lib.hid ((Below.refl w.heap.size w).alloc (Nat.le_refl _) (.cells #[.int .i64 k,.int .i64 n,.string s,.slice a l c] 70))
 have HF:=Lib.hid (Four.new w 70 (.int .i64 k) (.int .i64 n) (.string s) (.slice a l c))
 have n0:=HF.out.c0
 have n1:=HF.out.c1
 go_enter Tryz.func44,Tryz.ntmps44
 go_wp2_with fail
 go_region
 go_wp2_with fail
 have e1:max (min n 1073741825) (-1)=v:=hv.out.symm
 have e2:(k==1)=b:=by rw [hb.out]; by_cases h:k=1 <;> simp [h]
 rw [e1,e2]
 go_ret2
 exact⟨rfl,HB.out.drew⟩
def FlagAt (w:World) (G:Nat) (b:Bool):Prop:=w.heap[G]? = some (.cells #[.bool b] 4 (0,0))
set_option maxRecDepth 100000 in
set_option maxHeartbeats 1000000 in
theorem nread_any (k n:Int) (s:ByteArray) (a:Option Addr) (l c G:Nat) (g0:Bool) (w:World) (hG:FlagAt w G g0) (v:Int) (hv:Hid (v=cl n)) (b:Bool) (hb:Hid (b=(g0&&decide (k=1)))) :
 Calls Tryz.prog 43 #[.agg #[.int .i64 k,.int .i64 n,.string s,.slice a l c],.pointer (some ⟨G,0,none⟩)] w (fun e w'=>e = .returned (.int .i64 v)∧FlagAt w' G b∧w.grownBy w' (some G)):=by
 have HF:=Lib.hid (Four.new w 70 (.int .i64 k) (.int .i64 n) (.string s) (.slice a l c))
 have HB:=Lib.hid ((Below.refl w.heap.size w).alloc (Nat.le_refl _) (.cells #[.int .i64 k,.int .i64 n,.string s,.slice a l c] 70))
 have HG:=Lib.hid (show FlagAt (w.alloc (.cells #[.int .i64 k,.int .i64 n,.string s,.slice a l c] 70)) G g0 from (heap_alloc_old w _ (lt_of_block hG)).trans hG)
 have HW:=Lib.hid (nwhole_any k n s a l c (w.alloc (.cells #[.int .i64 k,.int .i64 n,.string s,.slice a l c] 70)) v hv (decide (k=1)) (Lib.hid rfl))
 have n0:=HF.out.c0
 have n1:=HF.out.c1
 have n2:=HF.out.c2
 have n3:=HF.out.c3
 clear hG
 go_enter Tryz.func43,Tryz.ntmps43
 go_wp2_with fail
 refine HW.out.mono ?_
 rintro e w1 ⟨rfl,hb1⟩
 have HG1:=Lib.hid (show FlagAt w1 G g0 from (hb1.block _ (lt_of_block HG.out)).trans HG.out)
 have HB1:=Lib.hid (below_then HB.out hb1 HB.out.size)
 clear n0 n1 n2 n3 hb1 HG HF HB HW
 dsimp only
 have f0:=(Lib.cell_of_heap HG1.out 0).trans (show _=some (Value.bool g0) from rfl)
 have f1:w1.frozen? ⟨G,0,none⟩=false:=frozen_of_row w1 G 0 _ _ HG1.out
 obtain⟨q,hq⟩:∃ q,q=decide (k=1):=⟨_,rfl⟩
 rw [← hq] at hb ⊢
 clear hq
 cases g0
 ·obtain rfl:b=false:=by rw [hb.out]; simp
  clear hb
  go_wp2_with fail
  go_ret
  exact⟨rfl,Blk.set (cs:=[_]) HG1.out 0 (.bool false),grown_trans (grown_below HB1.out (some G)) (grown_setCell w1 G 0 (.bool false))⟩
 ·obtain rfl:q=b:=by rw [hb.out]; simp
  clear hb
  go_wp2_with fail
  go_ret
  exact⟨rfl,Blk.set (cs:=[_]) HG1.out 0 (.bool q),grown_trans (grown_below HB1.out (some G)) (grown_setCell w1 G 0 (.bool q))⟩
end Go.Proofs.YtlpgbmaoenncjaaGreatDoor

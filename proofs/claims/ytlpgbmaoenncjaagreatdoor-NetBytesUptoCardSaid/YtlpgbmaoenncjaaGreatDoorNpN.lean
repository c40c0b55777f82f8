/-
  The walk of net.numbers: pointers to a message's numbers; without a condition.
-/
import Derived.Test.YtlpgbmaoenncjaaGreatDoorNmD
import Derived.Test.YtlpgbmaoenncjaaGreatDoorGen
import Derived.StillTailTactics
namespace Go.Proofs.YtlpgbmaoenncjaaGreatDoor
open Go.RowKit
set_option linter.unusedVariables false
set_option maxRecDepth 100000 in
set_option maxHeartbeats 1000000 in
theorem nnumbers_any (B:Nat) (w:World):Calls Tryz.prog 34 #[.pointer (some ⟨B,0,none⟩)] w (fun e w'=>e = .returned (.agg #[.pointer (some ⟨B,0,none⟩),.pointer (some ⟨B,1,none⟩),.pointer (some ⟨B,2,none⟩),.pointer (some ⟨B,3,none⟩),.pointer (some ⟨B,5,none⟩),.pointer (some ⟨B,6,none⟩),.pointer (some ⟨B,8,none⟩)])∧Below w.heap.size w w'):=by
 go_enter Tryz.func34,Tryz.ntmps34
 go_wp2_with fail
 go_still_tail 22,(by kernel_rfl)
 change wpList _ _ _ _ _ (World.drew _)
 go_wp2_with fail
 have HN:=heap_alloc_new w (.cells #[.pointer (some ⟨B,0,none⟩),.pointer (some ⟨B,1,none⟩),.pointer (some ⟨B,2,none⟩),.pointer (some ⟨B,3,none⟩),.pointer (some ⟨B,5,none⟩),.pointer (some ⟨B,6,none⟩),.pointer (some ⟨B,8,none⟩)] 73)
 generalize hW:w.alloc (.cells #[.pointer (some ⟨B,0,none⟩),.pointer (some ⟨B,1,none⟩),.pointer (some ⟨B,2,none⟩),.pointer (some ⟨B,3,none⟩),.pointer (some ⟨B,5,none⟩),.pointer (some ⟨B,6,none⟩),.pointer (some ⟨B,8,none⟩)] 73)=W at *
 have HB:Below w.heap.size w W:=by rw [← hW]; exact (Below.refl _ w).alloc (Nat.le_refl _) _
 refine bodyPost_ret (v:=.agg #[.pointer (some ⟨B,0,none⟩),.pointer (some ⟨B,1,none⟩),.pointer (some ⟨B,2,none⟩),.pointer (some ⟨B,3,none⟩),.pointer (some ⟨B,5,none⟩),.pointer (some ⟨B,6,none⟩),.pointer (some ⟨B,8,none⟩)]) ?_ rfl ?_
 ·exact results_cell_row (p:=2) rfl _ _ w.heap.size 73 _ (0,0) _ rfl HN Tryz.underlying73 rfl (by kernel_rfl)
 ·exact⟨rfl,HB.drew⟩
theorem ix7_0 (B:Nat) (W:World):(Instr.index 73 (.agg #[.pointer (some ⟨B,0,none⟩),.pointer (some ⟨B,1,none⟩),.pointer (some ⟨B,2,none⟩),.pointer (some ⟨B,3,none⟩),.pointer (some ⟨B,5,none⟩),.pointer (some ⟨B,6,none⟩),.pointer (some ⟨B,8,none⟩)]) (.int .i64 0)).run Tryz.prog W = .ok (.pointer (some ⟨B,0,none⟩)) W:=by
 have hs:Tryz.t72.size=1:=by kernel_rfl
 simp [Instr.index,run_underlying Tryz.underlying73,asIntOf,go_sem,part,sizeOf,hs]
theorem ix7_1 (B:Nat) (W:World):(Instr.index 73 (.agg #[.pointer (some ⟨B,0,none⟩),.pointer (some ⟨B,1,none⟩),.pointer (some ⟨B,2,none⟩),.pointer (some ⟨B,3,none⟩),.pointer (some ⟨B,5,none⟩),.pointer (some ⟨B,6,none⟩),.pointer (some ⟨B,8,none⟩)]) (.int .i64 1)).run Tryz.prog W = .ok (.pointer (some ⟨B,1,none⟩)) W:=by
 have hs:Tryz.t72.size=1:=by kernel_rfl
 simp [Instr.index,run_underlying Tryz.underlying73,asIntOf,go_sem,part,sizeOf,hs]
theorem ix7_2 (B:Nat) (W:World):(Instr.index 73 (.agg #[.pointer (some ⟨B,0,none⟩),.pointer (some ⟨B,1,none⟩),.pointer (some ⟨B,2,none⟩),.pointer (some ⟨B,3,none⟩),.pointer (some ⟨B,5,none⟩),.pointer (some ⟨B,6,none⟩),.pointer (some ⟨B,8,none⟩)]) (.int .i64 2)).run Tryz.prog W = .ok (.pointer (some ⟨B,2,none⟩)) W:=by
 have hs:Tryz.t72.size=1:=by kernel_rfl
 simp [Instr.index,run_underlying Tryz.underlying73,asIntOf,go_sem,part,sizeOf,hs]
theorem ix7_3 (B:Nat) (W:World):(Instr.index 73 (.agg #[.pointer (some ⟨B,0,none⟩),.pointer (some ⟨B,1,none⟩),.pointer (some ⟨B,2,none⟩),.pointer (some ⟨B,3,none⟩),.pointer (some ⟨B,5,none⟩),.pointer (some ⟨B,6,none⟩),.pointer (some ⟨B,8,none⟩)]) (.int .i64 3)).run Tryz.prog W = .ok (.pointer (some ⟨B,3,none⟩)) W:=by
 have hs:Tryz.t72.size=1:=by kernel_rfl
 simp [Instr.index,run_underlying Tryz.underlying73,asIntOf,go_sem,part,sizeOf,hs]
theorem ix7_4 (B:Nat) (W:World):(Instr.index 73 (.agg #[.pointer (some ⟨B,0,none⟩),.pointer (some ⟨B,1,none⟩),.pointer (some ⟨B,2,none⟩),.pointer (some ⟨B,3,none⟩),.pointer (some ⟨B,5,none⟩),.pointer (some ⟨B,6,none⟩),.pointer (some ⟨B,8,none⟩)]) (.int .i64 4)).run Tryz.prog W = .ok (.pointer (some ⟨B,5,none⟩)) W:=by
 have hs:Tryz.t72.size=1:=by kernel_rfl
 simp [Instr.index,run_underlying Tryz.underlying73,asIntOf,go_sem,part,sizeOf,hs]
theorem ix7_5 (B:Nat) (W:World):(Instr.index 73 (.agg #[.pointer (some ⟨B,0,none⟩),.pointer (some ⟨B,1,none⟩),.pointer (some ⟨B,2,none⟩),.pointer (some ⟨B,3,none⟩),.pointer (some ⟨B,5,none⟩),.pointer (some ⟨B,6,none⟩),.pointer (some ⟨B,8,none⟩)]) (.int .i64 5)).run Tryz.prog W = .ok (.pointer (some ⟨B,6,none⟩)) W:=by
 have hs:Tryz.t72.size=1:=by kernel_rfl
 simp [Instr.index,run_underlying Tryz.underlying73,asIntOf,go_sem,part,sizeOf,hs]
theorem ix7_6 (B:Nat) (W:World):(Instr.index 73 (.agg #[.pointer (some ⟨B,0,none⟩),.pointer (some ⟨B,1,none⟩),.pointer (some ⟨B,2,none⟩),.pointer (some ⟨B,3,none⟩),.pointer (some ⟨B,5,none⟩),.pointer (some ⟨B,6,none⟩),.pointer (some ⟨B,8,none⟩)]) (.int .i64 6)).run Tryz.prog W = .ok (.pointer (some ⟨B,8,none⟩)) W:=by
 have hs:Tryz.t72.size=1:=by kernel_rfl
 simp [Instr.index,run_underlying Tryz.underlying73,asIntOf,go_sem,part,sizeOf,hs]
end Go.Proofs.YtlpgbmaoenncjaaGreatDoor

/-
  The walk of net.numbers: pointers to a message's numbers; without a condition.
-/
import Derived.Test.YtboohpkmllelgaaDoorNmD
import Derived.Test.YtboohpkmllelgaaDoorGen
import Derived.StillTailTactics
namespace Go.Proofs.YtboohpkmllelgaaDoor
open Go.RowKit
set_option linter.unusedVariables false

set_option maxRecDepth 100000 in
set_option maxHeartbeats 1000000 in
theorem nnumbers_any (B : Nat) (w : World) : Calls Tryd.prog 26 #[.pointer (some ⟨B, 0, none⟩)] w (fun e w' => e = .returned (.agg #[.pointer (some ⟨B, 0, none⟩), .pointer (some ⟨B, 1, none⟩), .pointer (some ⟨B, 2, none⟩), .pointer (some ⟨B, 3, none⟩), .pointer (some ⟨B, 5, none⟩), .pointer (some ⟨B, 6, none⟩), .pointer (some ⟨B, 8, none⟩)]) ∧ Below w.heap.size w w') := by
  go_enter Tryd.func26, Tryd.ntmps26
  go_wp2_with fail
  go_still_tail 22, (by kernel_rfl)
  change wpList _ _ _ _ _ (World.drew _)
  go_wp2_with fail
  have HN := heap_alloc_new w (.cells #[.pointer (some ⟨B, 0, none⟩), .pointer (some ⟨B, 1, none⟩), .pointer (some ⟨B, 2, none⟩), .pointer (some ⟨B, 3, none⟩), .pointer (some ⟨B, 5, none⟩), .pointer (some ⟨B, 6, none⟩), .pointer (some ⟨B, 8, none⟩)] 61)
  generalize hW : w.alloc (.cells #[.pointer (some ⟨B, 0, none⟩), .pointer (some ⟨B, 1, none⟩), .pointer (some ⟨B, 2, none⟩), .pointer (some ⟨B, 3, none⟩), .pointer (some ⟨B, 5, none⟩), .pointer (some ⟨B, 6, none⟩), .pointer (some ⟨B, 8, none⟩)] 61) = W at *
  have HB : Below w.heap.size w W := by rw [← hW]; exact (Below.refl _ w).alloc (Nat.le_refl _) _
  refine bodyPost_ret (v := .agg #[.pointer (some ⟨B, 0, none⟩), .pointer (some ⟨B, 1, none⟩), .pointer (some ⟨B, 2, none⟩), .pointer (some ⟨B, 3, none⟩), .pointer (some ⟨B, 5, none⟩), .pointer (some ⟨B, 6, none⟩), .pointer (some ⟨B, 8, none⟩)]) ?_ rfl ?_
  · exact results_cell_row (p := 2) rfl _ _ w.heap.size 61 _ (0, 0) _ rfl HN Tryd.underlying61 rfl (by kernel_rfl)
  · exact ⟨rfl, HB.drew⟩
theorem ix7_0 (B : Nat) (W : World) : (Instr.index 61 (.agg #[.pointer (some ⟨B, 0, none⟩), .pointer (some ⟨B, 1, none⟩), .pointer (some ⟨B, 2, none⟩), .pointer (some ⟨B, 3, none⟩), .pointer (some ⟨B, 5, none⟩), .pointer (some ⟨B, 6, none⟩), .pointer (some ⟨B, 8, none⟩)]) (.int .i64 0)).run Tryd.prog W = .ok (.pointer (some ⟨B, 0, none⟩)) W := by
  have hs : Tryd.t60.size = 1 := by kernel_rfl
  simp [Instr.index, run_underlying Tryd.underlying61, asIntOf, go_sem, part, sizeOf, hs]
theorem ix7_1 (B : Nat) (W : World) : (Instr.index 61 (.agg #[.pointer (some ⟨B, 0, none⟩), .pointer (some ⟨B, 1, none⟩), .pointer (some ⟨B, 2, none⟩), .pointer (some ⟨B, 3, none⟩), .pointer (some ⟨B, 5, none⟩), .pointer (some ⟨B, 6, none⟩), .pointer (some ⟨B, 8, none⟩)]) (.int .i64 1)).run Tryd.prog W = .ok (.pointer (some ⟨B, 1, none⟩)) W := by
  have hs : Tryd.t60.size = 1 := by kernel_rfl
  simp [Instr.index, run_underlying Tryd.underlying61, asIntOf, go_sem, part, sizeOf, hs]
theorem ix7_2 (B : Nat) (W : World) : (Instr.index 61 (.agg #[.pointer (some ⟨B, 0, none⟩), .pointer (some ⟨B, 1, none⟩), .pointer (some ⟨B, 2, none⟩), .pointer (some ⟨B, 3, none⟩), .pointer (some ⟨B, 5, none⟩), .pointer (some ⟨B, 6, none⟩), .pointer (some ⟨B, 8, none⟩)]) (.int .i64 2)).run Tryd.prog W = .ok (.pointer (some ⟨B, 2, none⟩)) W := by
  have hs : Tryd.t60.size = 1 := by kernel_rfl
  simp [Instr.index, run_underlying Tryd.underlying61, asIntOf, go_sem, part, sizeOf, hs]
theorem ix7_3 (B : Nat) (W : World) : (Instr.index 61 (.agg #[.pointer (some ⟨B, 0, none⟩), .pointer (some ⟨B, 1, none⟩), .pointer (some ⟨B, 2, none⟩), .pointer (some ⟨B, 3, none⟩), .pointer (some ⟨B, 5, none⟩), .pointer (some ⟨B, 6, none⟩), .pointer (some ⟨B, 8, none⟩)]) (.int .i64 3)).run Tryd.prog W = .ok (.pointer (some ⟨B, 3, none⟩)) W := by
  have hs : Tryd.t60.size = 1 := by kernel_rfl
  simp [Instr.index, run_underlying Tryd.underlying61, asIntOf, go_sem, part, sizeOf, hs]
theorem ix7_4 (B : Nat) (W : World) : (Instr.index 61 (.agg #[.pointer (some ⟨B, 0, none⟩), .pointer (some ⟨B, 1, none⟩), .pointer (some ⟨B, 2, none⟩), .pointer (some ⟨B, 3, none⟩), .pointer (some ⟨B, 5, none⟩), .pointer (some ⟨B, 6, none⟩), .pointer (some ⟨B, 8, none⟩)]) (.int .i64 4)).run Tryd.prog W = .ok (.pointer (some ⟨B, 5, none⟩)) W := by
  have hs : Tryd.t60.size = 1 := by kernel_rfl
  simp [Instr.index, run_underlying Tryd.underlying61, asIntOf, go_sem, part, sizeOf, hs]
theorem ix7_5 (B : Nat) (W : World) : (Instr.index 61 (.agg #[.pointer (some ⟨B, 0, none⟩), .pointer (some ⟨B, 1, none⟩), .pointer (some ⟨B, 2, none⟩), .pointer (some ⟨B, 3, none⟩), .pointer (some ⟨B, 5, none⟩), .pointer (some ⟨B, 6, none⟩), .pointer (some ⟨B, 8, none⟩)]) (.int .i64 5)).run Tryd.prog W = .ok (.pointer (some ⟨B, 6, none⟩)) W := by
  have hs : Tryd.t60.size = 1 := by kernel_rfl
  simp [Instr.index, run_underlying Tryd.underlying61, asIntOf, go_sem, part, sizeOf, hs]
theorem ix7_6 (B : Nat) (W : World) : (Instr.index 61 (.agg #[.pointer (some ⟨B, 0, none⟩), .pointer (some ⟨B, 1, none⟩), .pointer (some ⟨B, 2, none⟩), .pointer (some ⟨B, 3, none⟩), .pointer (some ⟨B, 5, none⟩), .pointer (some ⟨B, 6, none⟩), .pointer (some ⟨B, 8, none⟩)]) (.int .i64 6)).run Tryd.prog W = .ok (.pointer (some ⟨B, 8, none⟩)) W := by
  have hs : Tryd.t60.size = 1 := by kernel_rfl
  simp [Instr.index, run_underlying Tryd.underlying61, asIntOf, go_sem, part, sizeOf, hs]
end Go.Proofs.YtboohpkmllelgaaDoor

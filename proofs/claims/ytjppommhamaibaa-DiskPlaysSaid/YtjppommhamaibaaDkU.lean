/-
  The walk of the laws' alive: a file can be written; new blocks alone are made.
-/
import Derived.Test.YtjppommhamaibaaDkT
namespace Go.Proofs.Ytjppommhamaibaa
open Go.RowKit Go.BigFrame
set_option linter.unusedVariables false

theorem alive_fact : (writeD ⟨9, [], -1, false⟩ ⟨#[97]⟩ ⟨#[120]⟩).2 = 0 ∧ (writeD ⟨9, [], -1, false⟩ ⟨#[97]⟩ ⟨#[120]⟩).1.files.length = 1 := by decide +kernel
set_option maxHeartbeats 1000000 in
theorem alive_any (w : World) : Calls Try.prog 10 #[] w fun e w' => e = .returned (.bool true) ∧ Below w.heap.size w w' := by
  have hw := write_any none 0 0 ⟨9, [], -1, false⟩ ⟨#[97]⟩ ⟨#[120]⟩ w ⟨Enc.Sl.nil _ _, Nat.le_refl _, Nat.zero_le _, fun _ => rfl, by decide, fun f hf => (by cases hf), by decide, by decide⟩ (by decide) (by decide)
  obtain ⟨f1, f2⟩ := alive_fact
  generalize writeD ⟨9, [], -1, false⟩ ⟨#[97]⟩ ⟨#[120]⟩ = r at *
  have H := Lib.hid hw
  clear hw
  unfold Dk.val at H
  dsimp only at H
  go_enter Try.func10, Try.ntmps10
  go_wp2_with fail
  refine H.out.mono ?_
  rintro e w1 ⟨a, n, c, rfl, hd, hb⟩
  have hn : n = 1 := hd.len.symm.trans f2
  rw [f1]
  have HB := Lib.hid hb
  clear hd hb f1 f2
  subst hn
  unfold Dk.val
  go_wp2_with fail
  go_ret
  exact ⟨rfl, HB.out.alloc HB.out.size _⟩
end Go.Proofs.Ytjppommhamaibaa

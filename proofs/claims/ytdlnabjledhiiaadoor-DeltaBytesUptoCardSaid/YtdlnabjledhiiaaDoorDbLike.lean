/-
  The walk of hornbookref07.Like at two deltas that are the same: it tells true.
-/
import Derived.Test.YtdlnabjledhiiaaDoorDl
import Derived.Test.YtdlnabjledhiiaaDoorFour
import Derived.Deep.LoopGhost
import Derived.BigQuiet
import Derived.LaidEqlPtr
namespace Go.Proofs.YtdlnabjledhiiaaDoor
open Go.RowKit
set_option linter.unusedVariables false

set_option maxRecDepth 20000 in
set_option maxHeartbeats 1000000 in
theorem dlike_any (a a' : Option Addr) (n c c' : Nat) (d : List DOp) (w : World) (h : OpsSl w a n d) (h' : OpsSl w a' n d) (hn : n ≤ 9223372036854775807) :
    Calls Tryd.prog 11 #[.slice a n c, .slice a' n c'] w (fun e w' => e = .returned (.bool true) ∧ Below w.heap.size w w') := by
  have H := Lib.hid h
  have H' := Lib.hid h'
  have HND := Lib.hid h.1
  clear h h'
  go_enter Tryd.func11, Tryd.ntmps11
  go_wp2_with fail
  go_loopg [13] n (fun gk v wr => ∃ (i : Nat) (m : Nat), i ≤ n ∧ gk = n - i ∧ v = .int .i64 (i : Int) ∧ wr = w.drewN m)
  case atStart => exact ⟨0, 0, Nat.zero_le _, rfl, rfl, rfl⟩
  case round =>
    obtain ⟨i, m, hi, rfl, rfl, rfl⟩ := hrel
    by_cases hlt : i < n
    · have hlti : (i : Int) < (n : Int) := by omega
      have hid : i < d.length := by have := HND.out; omega
      obtain ⟨-, b, off, rfl, hc⟩ := H.out.at (by omega)
      obtain ⟨-, b', off', rfl, hc'⟩ := H'.out.at (by omega)
      obtain ⟨e0, e1, e2⟩ := hc i hid
      obtain ⟨f0, f1, f2⟩ := hc' i hid
      generalize d[i] = o at *
      obtain ⟨f, l, t⟩ := o
      dsimp only at e0 e1 e2 f0 f1 f2
      clear hc hc'
      go_wp2_with fail
      go_quiet (fail)
      go_wp2_with fail
      go_roundg (n - (i + 1))
      case rel => exact ⟨i + 1, m + nq, hlt, rfl, by go_num, by simp⟩
      case measure => omega
    · obtain rfl : i = n := by omega
      go_wp2_with fail
      go_ret
      exact ⟨rfl, rfl, rfl, rfl, Nat.le_refl _, fun _ _ => rfl⟩
end Go.Proofs.YtdlnabjledhiiaaDoor

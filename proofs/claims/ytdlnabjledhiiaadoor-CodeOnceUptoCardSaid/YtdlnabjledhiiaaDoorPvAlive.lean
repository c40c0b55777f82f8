/-
  The walk of hornbooklaw01.alive: it tells true.
-/
import Derived.Test.YtdlnabjledhiiaaDoorPvPut
namespace Go.Proofs.YtdlnabjledhiiaaDoor
open Go.RowKit
set_option linter.unusedVariables false

theorem put_seven : putGot (.mk 1 7 ⟨#[]⟩ []) = (⟨#[105, 55, 101]⟩, 0) := by
  have h1 : rightL (.mk 1 7 ⟨#[]⟩ []) = 0 := by
    simp [rightL, rightGo, rightAll, rightOne]; rfl
  have h2 : putL (.mk 1 7 ⟨#[]⟩ []) = [105, 55, 101] := by
    rw [putL, if_pos rfl]
    have : Lib.itoa 7 = [55] := by
      unfold Lib.itoa
      rw [if_neg (by decide)]
      show Lib.decDigits 7 = [55]
      rw [Lib.decDigits, dif_pos (by decide)]
      rfl
    rw [this]; rfl
  unfold putGot
  rw [h1, h2, if_neg (by simp), if_neg (by decide)]

set_option maxRecDepth 20000 in
set_option maxHeartbeats 4000000 in
theorem alive01_any (w : World) (htab : Lib.TabIs Tryd.prog w "internal/strconv.uint64pow10" .u64 Lib.pow10Tab) :
    Calls Tryd.prog 19 #[] w (fun e w' => e = .returned (.bool true) ∧ Below w.heap.size w w') := by
  have hp := Lib.hid (put_any (fun _ => False) (.mk 1 7 ⟨#[]⟩ []) [.int .i64 1, .int .i64 7, .string ⟨#[]⟩, .slice none 0 0] w (fun _ h => h.elim) (by simp only [V.At]; exact ⟨none, 0, rfl, Nat.le_refl _, fun _ => rfl, by simp only [VAll]⟩) (by simp [V.cnt, cntAll]) (by simp [V.InR, allInR])
    (by have := put_seven; unfold putGot at this; rw [putL, if_pos rfl]; have : Lib.itoa 7 = [55] := by (unfold Lib.itoa; rw [if_neg (by decide)]; show Lib.decDigits 7 = [55]; rw [Lib.decDigits, dif_pos (by decide)]; rfl) 
        rw [this]; simp) htab (⟨#[105, 55, 101]⟩, 0) (Lib.hid put_seven.symm))
  clear htab
  go_enter Tryd.func19, Tryd.ntmps19
  go_wp2_with fail
  refine hp.out.mono ?_
  rintro e w2 ⟨rfl, hb⟩
  have HB := Lib.hid hb
  clear hp hb
  go_wp2_with fail
  go_ret
  exact ⟨rfl, HB.out⟩
end Go.Proofs.YtdlnabjledhiiaaDoor

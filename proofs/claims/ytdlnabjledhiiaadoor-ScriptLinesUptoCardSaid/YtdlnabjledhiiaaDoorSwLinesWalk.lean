/-
  The walk of the law ScriptLines: on every line of less than 2^32 - 15 bytes it returns true; new blocks alone are made.
-/
import Derived.Test.YtdlnabjledhiiaaDoorSwWords
import Derived.Test.YtdlnabjledhiiaaDoorLike
namespace Go.Proofs.YtdlnabjledhiiaaDoor
open Go.RowKit
set_option linter.unusedVariables false

theorem alive_line : lineW ⟨#[97, 32, 98]⟩ = [⟨#[97]⟩, ⟨#[98]⟩] := by rfl
theorem alive_says : saysB ⟨#[97, 32, 98]⟩ = true := by rfl
set_option maxHeartbeats 1000000 in
theorem alive24 (m : Int) (w : World) (hm : w.cell? ⟨1, 0, none⟩ = some (.int .i64 m)) :
    Calls Tryd.prog 17 #[] w fun e w' => e = .returned (.bool true) ∧ Below w.heap.size w w' := by
  have hc := Lib.hid (line_any ⟨#[97, 32, 98]⟩ m w hm (by decide))
  clear hm
  go_enter Tryd.func17, Tryd.ntmps17
  go_wp2_with fail
  refine hc.out.mono ?_
  rintro e w1 ⟨a, n, c, b, rfl, rfl, hsl, hb⟩
  rw [alive_says]
  rw [alive_line] at hsl
  obtain rfl : n = 2 := hsl.1
  have HB := Lib.hid hb
  clear hsl hb hc
  go_wp2_with fail
  go_ret
  exact ⟨rfl, HB.out⟩

set_option maxHeartbeats 1000000 in
theorem scriptLines_walk (s : ByteArray) (m : Int) (w : World) (hm : w.cell? ⟨1, 0, none⟩ = some (.int .i64 m)) (hs : s.size < 4294967281) :
    Calls Tryd.prog 5 #[.string s] w fun e w' => e = .returned (.bool true) ∧ Below w.heap.size w w' := by
  have hc := Lib.hid (line_any s m w hm hs)
  have HM := Lib.hid hm
  have HSZ := Lib.hid hs
  clear hm hs
  go_enter Tryd.func5, Tryd.ntmps5
  go_wp2_with fail
  refine hc.out.mono ?_
  rintro e w1 ⟨a1, n1, c1, b1, rfl, hb1, hsl1, hbe1⟩
  have H1 := Lib.hid (And.intro hb1 (And.intro hsl1 hbe1))
  clear hb1 hsl1 hbe1 hc
  go_wp2_with fail
  refine (words_any s w1 HSZ.out).mono ?_
  rintro e w2 ⟨a2, n2, c2, b2, rfl, hb2, hsl2, hbe2⟩
  obtain rfl : b2 = b1 := by rw [hb2, H1.out.1]
  have H2 := Lib.hid (And.intro hsl2 hbe2)
  have HB2 : Hid (Below w.heap.size w w2) := Lib.hid (below_then H1.out.2.2 hbe2 H1.out.2.2.size)
  clear hb2 hsl2 hbe2
  go_wp2_with fail
  refine (alive24 m w2 (cell_keep HB2.out HM.out)).mono ?_
  rintro e w3 ⟨rfl, hb3⟩
  have hl := like_same a1 a2 n1 n2 c1 c2 (lineW s) w3 ((H1.out.2.1.keep H2.out.2).keep hb3) (H2.out.1.keep hb3) (by
    unfold lineW; have := wordsB_length s; split <;> simp; omega)
  have HL := Lib.hid hl
  have HB3 : Hid (Below w.heap.size w w3) := Lib.hid (below_then HB2.out hb3 HB2.out.size)
  clear hl hb3
  cases b2
  all_goals
    go_wp2_with fail
    refine HL.out.mono ?_
    rintro e w4 ⟨rfl, k, rfl⟩
    go_wp2_with fail
    go_ret
    exact ⟨rfl, below_drewN HB3.out k⟩
end Go.Proofs.YtdlnabjledhiiaaDoor

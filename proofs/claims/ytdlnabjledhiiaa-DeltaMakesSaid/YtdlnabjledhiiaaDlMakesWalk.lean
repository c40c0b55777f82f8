/-
  The walk of the law DeltaMakes: it returns true on any two texts; the library's own variable holds some number; new blocks alone are made.
-/
import Derived.Test.YtdlnabjledhiiaaMkWalkB
import Derived.Test.YtdlnabjledhiiaaDlFindsWalk
namespace Go.Proofs.Ytdlnabjledhiiaa
open Go.RowKit
set_option linter.unusedVariables false

set_option maxRecDepth 100000 in
set_option maxHeartbeats 8000000 in
theorem deltaMakes_main (old now : ByteArray) (m : Int) (w : World) (hm : w.cell? ⟨0, 0, none⟩ = some (.int .i64 m)) (ho : old.size ≤ maxLen) (hn : now.size ≤ maxLen) :
    Calls Try.prog 8 #[.string old, .string now] w fun e w' => e = .returned (.bool true) ∧ Below w.heap.size w w' := by
  have k0 := short_any old 3000 w (by decide) ho _ (Lib.hid rfl)
  have k1 := short_any now 3000 w (by decide) hn _ (Lib.hid rfl)
  have l0 := shortS_le old 3000
  have l1 := shortS_le now 3000
  generalize shortS old 3000 = s at *
  generalize shortS now 3000 = t at *
  have k0 : Hid (Calls Try.prog 23 #[.string old, .int .i64 3000] w fun e w' => e = .returned (.string s) ∧ w = w') := k0
  have k1 : Hid (Calls Try.prog 23 #[.string now, .int .i64 3000] w fun e w' => e = .returned (.string t) ∧ w = w') := k1
  have HMK := Lib.hid (make_any s t m w hm (by omega) (by omega))
  have hsi : (s.size : Int) ≤ 3000 := by omega
  have hti : (t.size : Int) ≤ 3000 := by omega
  have HTL := Lib.hid (show t.data.toList.length = t.size from (size_len t).symm)
  clear hm
  go_enter Try.func8, Try.ntmps8
  go_wp2_with fail
  refine k0.out.mono ?_
  rintro e w1 ⟨rfl, rfl⟩
  go_wp2_with fail
  refine k1.out.mono ?_
  rintro e w1 ⟨rfl, rfl⟩
  go_wp2_with fail
  refine HMK.out.mono ?_
  rintro e w1 ⟨a, n, c, d, rfl, hsl, hnc, hg, hb, hnil⟩
  have hnl : n = d.length := hsl.1
  have HSL := Lib.hid hsl
  have HG := Lib.hid hg
  have HB := Lib.hid hb
  have HN := Lib.hid hnl
  have hn2 : n ≤ 2000 := by have := hg.right; unfold rightB at this; simp at this; omega
  have hn9 : n ≤ 9223372036854775807 := by omega
  have hni : (n : Int) ≤ 2000 := by omega
  have HNIL := Lib.hid hnil
  have HW : Hid ((weigh d : Int) = if rightB d = true then (weigh d : Int) else 0) := Lib.hid (by rw [if_pos hg.right])
  have hwl : (weigh d : Int) ≤ (t.size : Int) + 8 := by have := hg.small; rw [HTL.out] at this; omega
  obtain ⟨wd, hwd⟩ : ∃ wd : Int, wd = (weigh d : Int) := ⟨_, rfl⟩
  rw [← hwd] at hwl
  have HW : Hid (wd = if rightB d = true then (weigh d : Int) else 0) := Lib.hid (hwd.trans HW.out)
  have HAP : Hid (applyAll s.data.toList d (t.size : Int) = (t.data.toList, 0)) := Lib.hid (by
    have := hg.applied (by rw [HTL.out]; omega)
    rw [HTL.out] at this; exact this)
  clear hsl hg hb hnl hnil hwd k0 k1 HMK
  go_wp2_with fail
  refine (refRight_any a n c d _ HSL.out hn9 true (Lib.hid HG.out.right.symm)).mono ?_
  rintro e w2 ⟨rfl, hb2⟩
  have HB2 := Lib.hid (below_then HB.out hb2 HB.out.size)
  have HSL2 := Lib.hid (HSL.out.keep hb2)
  clear hb2
  go_wp2_with fail
  refine (size_any a n c d _ HSL2.out hn9 _ HW).mono ?_
  rintro e w3 ⟨rfl, hb3⟩
  have HB3 := Lib.hid (below_then HB2.out hb3 HB2.out.size)
  have HSL3 := Lib.hid (HSL2.out.keep hb3)
  clear hb3
  by_cases h0 : t.size = 0
  · have hn0 : n = 0 := by rw [HN.out, HNIL.out h0]; rfl
    have e3 : ((n : Int) != 0) = false := by rw [hn0]; rfl
    have e1 : t.toList.isEmpty = true := by rw [size0 h0]; rw [toList_nil]; rfl
    have e2 : (t.toList == []) = true := by rw [size0 h0]; rw [toList_nil]; rfl
    clear h0 hn0
    have HAPW := Lib.hid (fun W (hb : Below w3.heap.size w3 W) => apply_any s a n c d (t.size : Int) W (HSL3.out.keep hb) hn9 (by unfold maxLen; omega))
    rw [HAP.out] at HAPW
    have htt : (t.toList == t.toList) = true := by simp
    go_wp2_with fail
    go_loopg [7] (n + 1) (fun gk v wr => ∃ j : Nat, j ≤ n + 1 ∧ gk = n + 1 - j ∧ v = .int .i64 ((j : Int) + 1) ∧ w3 = wr)
    case atStart => exact ⟨0, Nat.zero_le _, rfl, rfl, rfl⟩
    case round =>
      obtain ⟨j, hj, rfl, rfl, rfl⟩ := hrel
      by_cases hlt : j + 1 < n
      · obtain ⟨-, b, off, rfl, hcells⟩ := HSL3.out.at (by omega)
        have hd1 : j + 1 < d.length := by rw [← HN.out]; exact hlt
        have hd0 : j < d.length := by omega
        obtain ⟨-, c1, -⟩ := hcells (j + 1) hd1
        obtain ⟨-, c2, -⟩ := hcells j hd0
        have hna := noAdj_get d j hd1 HG.out.adj
        have hji : (j : Int) + 1 < (n : Int) := by omega
        have hji2 : (j : Int) < (n : Int) := by omega
        clear hcells
        generalize d[j + 1].l = x at *
        generalize d[j].l = y at *
        by_cases hx : x = 0
        · have hxb : (x == 0) = true := by simp [hx]
          have hyb : (y == 0) = false := by rw [beq_eq_false_iff_ne]; intro hy; exact hna ⟨hy, hx⟩
          clear hna hx
          go_wp2_with fail
          go_roundg (n + 1 - (j + 1))
          case rel => exact ⟨j + 1, by omega, rfl, by go_num, rfl⟩
          case measure => omega
        · have hxb : (x == 0) = false := by rw [beq_eq_false_iff_ne]; exact hx
          clear hna hx
          go_wp2_with fail
          go_roundg (n + 1 - (j + 1))
          case rel => exact ⟨j + 1, by omega, rfl, by go_num, rfl⟩
          case measure => omega
      · have hji : (n : Int) ≤ (j : Int) + 1 := by omega
        go_wp2_with fail
        refine (HAPW.out _ (Below.refl _ _)).mono ?_
        rintro e w4 ⟨rfl, hb4⟩
        have HB4 := Lib.hid (below_then HB3.out hb4 HB3.out.size)
        clear hb4
        rw [strOf_self]
        go_wp2_with fail
        refine (rightOne _ _).mono ?_
        rintro e w5 ⟨rfl, hb5⟩
        have HB5 := Lib.hid (below_then HB4.out hb5 HB4.out.size)
        clear hb5
        go_wp2_with fail
        go_ret
        exact ⟨rfl, HB5.out⟩
  · have e1 := isEmpty_no h0
    have e2 := eqNil_no h0
    clear h0
    have HAPW := Lib.hid (fun W (hb : Below w3.heap.size w3 W) => apply_any s a n c d (t.size : Int) W (HSL3.out.keep hb) hn9 (by unfold maxLen; omega))
    rw [HAP.out] at HAPW
    have htt : (t.toList == t.toList) = true := by simp
    go_wp2_with fail
    go_loopg [7] (n + 1) (fun gk v wr => ∃ j : Nat, j ≤ n + 1 ∧ gk = n + 1 - j ∧ v = .int .i64 ((j : Int) + 1) ∧ w3 = wr)
    case atStart => exact ⟨0, Nat.zero_le _, rfl, rfl, rfl⟩
    case round =>
      obtain ⟨j, hj, rfl, rfl, rfl⟩ := hrel
      by_cases hlt : j + 1 < n
      · obtain ⟨-, b, off, rfl, hcells⟩ := HSL3.out.at (by omega)
        have hd1 : j + 1 < d.length := by rw [← HN.out]; exact hlt
        have hd0 : j < d.length := by omega
        obtain ⟨-, c1, -⟩ := hcells (j + 1) hd1
        obtain ⟨-, c2, -⟩ := hcells j hd0
        have hna := noAdj_get d j hd1 HG.out.adj
        have hji : (j : Int) + 1 < (n : Int) := by omega
        have hji2 : (j : Int) < (n : Int) := by omega
        clear hcells
        generalize d[j + 1].l = x at *
        generalize d[j].l = y at *
        by_cases hx : x = 0
        · have hxb : (x == 0) = true := by simp [hx]
          have hyb : (y == 0) = false := by rw [beq_eq_false_iff_ne]; intro hy; exact hna ⟨hy, hx⟩
          clear hna hx
          go_wp2_with fail
          go_roundg (n + 1 - (j + 1))
          case rel => exact ⟨j + 1, by omega, rfl, by go_num, rfl⟩
          case measure => omega
        · have hxb : (x == 0) = false := by rw [beq_eq_false_iff_ne]; exact hx
          clear hna hx
          go_wp2_with fail
          go_roundg (n + 1 - (j + 1))
          case rel => exact ⟨j + 1, by omega, rfl, by go_num, rfl⟩
          case measure => omega
      · have hji : (n : Int) ≤ (j : Int) + 1 := by omega
        go_wp2_with fail
        refine (HAPW.out _ (Below.refl _ _)).mono ?_
        rintro e w4 ⟨rfl, hb4⟩
        have HB4 := Lib.hid (below_then HB3.out hb4 HB3.out.size)
        clear hb4
        rw [strOf_self]
        go_wp2_with fail
        refine (rightOne _ _).mono ?_
        rintro e w5 ⟨rfl, hb5⟩
        have HB5 := Lib.hid (below_then HB4.out hb5 HB4.out.size)
        clear hb5
        go_wp2_with fail
        go_ret
        exact ⟨rfl, HB5.out⟩

theorem deltaMakes_walk (old now : ByteArray) (w : World) (ho : old.size ≤ maxLen) (hn : now.size ≤ maxLen) (hsh : w.ShapedOpen Try.prog) :
    Calls Try.prog 8 #[.string old, .string now] w fun e w' => e = .returned (.bool true) ∧ Below w.heap.size w w' := by
  obtain ⟨m, hm⟩ := maxLenVar w hsh
  exact deltaMakes_main old now m w hm ho hn
end Go.Proofs.Ytdlnabjledhiiaa

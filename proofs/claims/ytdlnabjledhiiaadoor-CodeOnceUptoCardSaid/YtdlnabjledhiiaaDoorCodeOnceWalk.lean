/-
  The walk of the law CodeOnce: it returns true.
-/
import Derived.Test.YtdlnabjledhiiaaDoorPvOnceP
import Derived.Test.YtdlnabjledhiiaaDoorPvAlive
import Derived.Test.YtdlnabjledhiiaaDoorLk
namespace Go.Proofs.YtdlnabjledhiiaaDoor
open Go.RowKit
set_option linter.unusedVariables false

set_option maxRecDepth 20000 in
set_option maxHeartbeats 4000000 in
theorem codeOnce_walk (s : ByteArray) (w : World) (hm : s.size ≤ 9223372036854775807) (htab : Lib.TabIs Tryd.prog w "internal/strconv.uint64pow10" .u64 Lib.pow10Tab) :
    Calls Tryd.prog 6 #[.string s] w (fun e w' => e = .returned (.bool true) ∧ Below w.heap.size w w') := by
  have HTB := Lib.hid (Lib.tabBelow_of_tabIs htab)
  have hal := Lib.hid (alive01_any w htab)
  have HGET : Hid (∀ w1, Calls Tryd.prog 20 #[.string s] w1 (GetPost w1 (getL s))) := Lib.hid fun w1 => get_any s w1 hm
  have HOK := Lib.hid (getL_ok s)
  have HNO := Lib.hid (getL_no s)
  clear htab
  go_enter Tryd.func6, Tryd.ntmps6
  go_wp2_with fail
  refine hal.out.mono ?_
  rintro e w2 ⟨rfl, hb2⟩
  have HB2 := Lib.hid hb2
  clear hal hb2
  go_wp2_with fail
  refine (HGET.out w2).mono ?_
  generalize getL s = g at *
  rintro e w3 ⟨cs, rfl, hat, hb3⟩
  have HB3 := Lib.hid (HB2.out.trans (Below.lower hb3 HB2.out.size))
  have HAT := Lib.hid (V.At.move (T := fun b => b < w3.heap.size) (fun _ (h : _ ∧ _) => h.2) (fun _ _ => rfl) _ _ hat)
  clear HGET hat hb3 HB2
  obtain ⟨x, bad, at_⟩ := g
  have HAT2 := HAT.out
  obtain ⟨k, n, t, l⟩ := x
  simp only [V.At] at HAT2
  obtain ⟨a, c, rfl, -, -, -⟩ := HAT2
  have HN := Lib.hid (Four.new w3 42 (.int .i64 k) (.int .i64 n) (.string t) (.slice a l.length c))
  have HB4 := Lib.hid (HB3.out.alloc HB3.out.size (.cells #[.int .i64 k, .int .i64 n, .string t, .slice a l.length c] 42))
  have HA4 := Lib.hid (V.At.move (w' := w3.alloc (.cells #[.int .i64 k, .int .i64 n, .string t, .slice a l.length c] 42)) (T := fun b => b < (w3.alloc (.cells #[.int .i64 k, .int .i64 n, .string t, .slice a l.length c] 42)).heap.size) (fun _ h => by rw [World.size_alloc]; omega) (fun b hb => heap_alloc_old w3 _ hb) _ _ HAT.out)
  clear HAT HB3
  by_cases hbad : bad = 0
  · obtain ⟨h1, h2, h3, h4, h5⟩ := HOK.out hbad
    subst hbad
    dsimp only at h1 h2 h3 h4 h5
    subst h1
    have n0 := HN.out.c0
    have n1 := HN.out.c1
    have n2 := HN.out.c2
    have n3 := HN.out.c3
    have hput := Lib.hid (put_any _ (.mk k n t l) _ _ (fun b h => h) HA4.out (by omega) h4 (by omega) (HTB.out _ HB4.out) (s, 0) (Lib.hid h2.symm))
    clear HOK HNO h2 h3 h4 h5 HA4 HTB
    go_wp2_with fail
    refine hput.out.mono ?_
    rintro e w5 ⟨rfl, hb5⟩
    have HB5 := Lib.hid (HB4.out.trans (Below.lower hb5 HB4.out.size))
    clear hput hb5 HB4 n0 n1 n2 n3 HN
    go_wp2_with fail
    go_ret
    exact ⟨rfl, HB5.out⟩
  · obtain ⟨h1, h2⟩ := HNO.out hbad
    dsimp only at h1 h2
    unfold zeroV at h1
    cases h1
    have p1 : (bad != 0) = true := by simpa using hbad
    have p2 : (bad == 0) = false := by simpa using hbad
    have n0 := HN.out.c0
    have n1 := HN.out.c1
    have n2 := HN.out.c2
    have n3 := HN.out.c3
    have hi : (at_ : Int) ≤ (s.size : Int) := by omega
    have hi0 : (0 : Int) ≤ (at_ : Int) := by omega
    have hlk := Lib.hid (like_same_any _ (fun _ => False) 1 zeroV (by simp [zeroV, V.cnt, cntAll]) (by simp [zeroV, V.cnt, cntAll]) _ [.int .i64 0, .int .i64 0, .string ⟨#[]⟩, .slice none 0 0] _ (fun b h => h) (fun _ h => h.elim) HA4.out (by unfold zeroV; simp only [V.At]; exact ⟨none, 0, rfl, Nat.le_refl _, fun _ => rfl, by simp only [VAll]⟩))
    clear HOK HNO HA4 HTB hbad h2
    go_wp2_with fail
    refine hlk.out.mono ?_
    rintro e w5 ⟨rfl, hb5⟩
    have HB5 := Lib.hid (HB4.out.trans (Below.lower hb5 HB4.out.size))
    clear hlk hb5 HB4 n0 n1 n2 n3 HN
    go_wp2_with fail
    go_ret
    exact ⟨rfl, HB5.out⟩
end Go.Proofs.YtdlnabjledhiiaaDoor

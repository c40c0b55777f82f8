/-
  The walks of hornbookref01's reader: now, digit, wrong, take, fits.
-/
import Derived.Test.YtdlnabjledhiiaaDoorRfP
import Derived.BigQuiet
namespace Go.Proofs.YtdlnabjledhiiaaDoor
open Go.RowKit
set_option linter.unusedVariables false

/-- The byte at a place; -1: the end. -/
def nowL (s : ByteArray) (a : Nat) : Int := if h : a < s.size then (s[a].toNat : Int) else -1

set_option maxHeartbeats 1000000 in
theorem now_any (r : Nat) (s : ByteArray) (a : Nat) (m b : Int) (w : World) (h : RdAt w r s a m b) (hs : s.size ≤ 9223372036854775807) (v : Int) (hv : Hid (v = nowL s a)) :
    Calls Tryd.prog 55 #[.pointer (some ⟨r, 0, none⟩)] w fun e w' => e = .returned (.int .i64 v) ∧ ∃ n, w' = w.drewN n := by
  have c0 := h.c0
  have c1 := h.c1
  clear h
  by_cases h1 : a < s.size
  · have hi : (a : Int) < (s.size : Int) := by omega
    have HV : Hid (v = (s[a].toNat : Int)) := Lib.hid (by rw [hv.out, nowL, dif_pos h1])
    have HW : Hid (wrap64 (s[a].toNat : Int) = (s[a].toNat : Int)) := Lib.hid (by have := s[a].toNat_lt; unfold wrap64; omega)
    clear hv
    go_enter Tryd.func55, Tryd.ntmps55
    go_wp2_with fail
    go_quiet (fail)
    revert nq
    intro nqa
    go_wp2_with fail
    go_quiet (fail)
    go_wp2_with fail
    go_ret
    exact ⟨by rw [HV.out]; exact congrArg (fun z => Ending.returned (Value.int .i64 z)) HW.out, nqa + nq, by simp⟩
  · have hi : (s.size : Int) ≤ (a : Int) := by omega
    have HV : Hid (v = -1) := Lib.hid (by rw [hv.out, nowL, dif_neg h1])
    clear hv h1
    go_enter Tryd.func55, Tryd.ntmps55
    go_wp2_with fail
    go_quiet (fail)
    go_wp2_with fail
    go_ret
    exact ⟨by rw [HV.out]; rfl, _, rfl⟩

set_option maxHeartbeats 1000000 in
theorem digit_any (c : Int) (w : World) (v : Bool) (hv : Hid (v = (decide (48 ≤ c) && decide (c ≤ 57)))) :
    Calls Tryd.prog 56 #[.int .i64 c] w fun e w' => e = .returned (.bool v) ∧ w' = w := by
  by_cases h1 : 48 ≤ c
  · by_cases h2 : c ≤ 57
    · have HV : Hid (v = true) := Lib.hid (by rw [hv.out]; simp [h1, h2])
      clear hv
      go_enter Tryd.func56, Tryd.ntmps56
      go_wp2_with fail
      go_ret
      exact ⟨by rw [HV.out]; rfl, rfl⟩
    · have HV : Hid (v = false) := Lib.hid (by rw [hv.out]; simp [h2])
      have h3 : 57 < c := by omega
      have P3 : Hid (decide (c ≤ 57) = false) := Lib.hid (by simpa using h3)
      clear hv h2
      go_enter Tryd.func56, Tryd.ntmps56
      go_wp2_with fail
      go_ret
      exact ⟨by rw [HV.out]; exact congrArg (fun z => Ending.returned (Value.bool z)) P3.out, rfl⟩
  · have HV : Hid (v = false) := Lib.hid (by rw [hv.out]; simp [h1])
    have h3 : c < 48 := by omega
    clear hv h1
    go_enter Tryd.func56, Tryd.ntmps56
    go_wp2_with fail
    go_ret
    exact ⟨by rw [HV.out]; rfl, rfl⟩

/-- What is wrong at a place. -/
def wrongL (s : ByteArray) (a : Nat) : Int := if a < s.size then 11 else 10
theorem nowL_neg (s : ByteArray) (a : Nat) : (nowL s a < 0) ↔ ¬ a < s.size := by
  unfold nowL
  split
  · rename_i h; constructor
    · intro h2; omega
    · intro h2; exact absurd h h2
  · rename_i h; exact ⟨fun _ => h, fun _ => by decide⟩
set_option maxHeartbeats 1000000 in
theorem wrong_any (r : Nat) (s : ByteArray) (a : Nat) (m b : Int) (w : World) (h : RdAt w r s a m b) (hs : s.size ≤ 9223372036854775807) (v : Int) (hv : Hid (v = wrongL s a)) :
    Calls Tryd.prog 57 #[.pointer (some ⟨r, 0, none⟩)] w fun e w' => e = .returned (.tuple #[]) ∧ RdAt w' r s a m v ∧ w.grownBy w' (some r) := by
  have c3 := h.c3
  have f3 := h.free 3 (by decide)
  have H2 := Lib.hid (h.setBad 11)
  have hg := Lib.hid (grown_setCell w r 3 (.int .i64 11))
  have hnow := Lib.hid (now_any r s a m 11 _ H2.out hs (nowL s a) (Lib.hid rfl))
  have hneg := nowL_neg s a
  generalize nowL s a = q at *
  clear h
  go_enter Tryd.func57, Tryd.ntmps57
  go_wp2_with fail
  refine hnow.out.mono ?_
  rintro e w2 ⟨rfl, n, rfl⟩
  clear hnow c3 f3
  generalize w.setCell ⟨r, 3, none⟩ (.int .i64 11) = w3 at *
  have H3 := Lib.hid (H2.out.drewN n)
  have HG := Lib.hid (grown_trans hg.out (grown_drewN (World.grownBy.refl w3 _) n))
  clear H2 hg
  have c3 := H3.out.c3
  have f3 := H3.out.free 3 (by decide)
  generalize w3.drewN n = w4 at *
  by_cases h1 : a < s.size
  · have hq : 0 ≤ q := by exact Classical.byContradiction fun h => absurd h1 (hneg.1 (by omega))
    have HV : Hid (v = 11) := Lib.hid (by rw [hv.out, wrongL, if_pos h1])
    clear hneg hv h1
    go_wp2_with fail
    go_end0
    rw [HV.out]
    exact ⟨rfl, H3.out, HG.out⟩
  · have hq : q < 0 := hneg.2 h1
    have HV : Hid (v = 10) := Lib.hid (by rw [hv.out, wrongL, if_neg h1])
    clear hneg hv h1
    go_wp2_with fail
    go_end0
    rw [HV.out]
    exact ⟨rfl, H3.out.setBad _, grown_trans HG.out (grown_setCell _ _ _ _)⟩

set_option maxHeartbeats 1000000 in
/-- take, where nothing is wrong yet. -/
theorem take_any (r : Nat) (s : ByteArray) (a : Nat) (m : Int) (c : UInt8) (w : World) (h : RdAt w r s a m 0) (hs : s.size ≤ 9223372036854775806) (x : Bool × Nat × Int) (hx : Hid (x = mustL s a c)) :
    Calls Tryd.prog 72 #[.pointer (some ⟨r, 0, none⟩), .int .i64 (c.toNat : Int)] w fun e w' => e = .returned (.tuple #[]) ∧ RdAt w' r s (x.2.1 : Int) m x.2.2 ∧ w.grownBy w' (some r) := by
  have c3 := h.c3
  have H := Lib.hid h
  have hnow := Lib.hid (now_any r s a m 0 w h (by omega) (nowL s a) (Lib.hid rfl))
  clear h
  go_enter Tryd.func72, Tryd.ntmps72
  go_wp2_with fail
  refine hnow.out.mono ?_
  rintro e w2 ⟨rfl, n, rfl⟩
  clear hnow c3
  have H3 := Lib.hid (H.out.drewN n)
  have HG := Lib.hid (grown_drewN (World.grownBy.refl w (some r)) n)
  clear H
  generalize w.drewN n = w3 at *
  by_cases h1 : ∃ h : a < s.size, s[a] = c
  · obtain ⟨h1, h2⟩ := h1
    have HQ : nowL s a = (c.toNat : Int) := by rw [nowL, dif_pos h1, h2]
    have hne : ((c.toNat : Int) != (c.toNat : Int)) = false := by simp
    have HX : Hid (x = (true, a + 1, 0)) := Lib.hid (by rw [hx.out, mustL, dif_pos h1, if_pos h2])
    have hi : (a : Int) < 9223372036854775806 := by omega
    have c1 := H3.out.c1
    have f1 := H3.out.free 1 (by decide)
    rw [HQ]
    clear hx h2 HQ
    go_wp2_with fail
    go_end0
    rw [HX.out]
    exact ⟨rfl, by rw [Int.natCast_add]; exact H3.out.setAt _, grown_trans HG.out (grown_setCell _ _ _ _)⟩
  · have HX : Hid (x = (false, a, wrongL s a)) := by
      refine Lib.hid ?_
      rw [hx.out, mustL, wrongL]
      by_cases h2 : a < s.size
      · rw [dif_pos h2, if_neg (fun e => h1 ⟨h2, e⟩), if_pos h2]
      · rw [dif_neg h2, if_neg h2]
    have hne : (nowL s a != (c.toNat : Int)) = true := by
      rw [bne_iff_ne, nowL]
      split
      · rename_i h2
        intro e
        exact h1 ⟨h2, UInt8.toNat_inj.1 (by omega)⟩
      · omega
    have hwr := Lib.hid (wrong_any r s a m 0 w3 H3.out (by omega) (wrongL s a) (Lib.hid rfl))
    generalize nowL s a = q at *
    clear hx h1
    go_wp2_with fail
    refine hwr.out.mono ?_
    rintro e w4 ⟨rfl, hr4, hg4⟩
    have HR4 := Lib.hid hr4
    have HG4 := Lib.hid (grown_trans HG.out hg4)
    clear hwr hr4 hg4
    go_wp2_with fail
    (try simp only [Exit.inBlock, Exit.then])
    refine bodyPost_ret (v := .tuple #[]) (results_none rfl _ _ _) rfl ?_
    rw [HX.out]
    exact ⟨rfl, HR4.out, HG4.out⟩

set_option maxHeartbeats 1000000 in
theorem fits_any (t most : ByteArray) (w : World) (v : Bool) (hv : Hid (v = fitsB t most)) :
    Calls Tryd.prog 84 #[.string t, .string most] w fun e w' => e = .returned (.bool v) ∧ w' = w := by
  by_cases h1 : 1 < t.size
  · have h1i : (1 : Int) < (t.size : Int) := by omega
    have h10 : 0 < t.size := by omega
    have hat : t.data.toList[0]? = some (t[0]'h10) := at_lt h10
    by_cases h2 : (t[0]'h10) = 48
    · have e1 : (((t[0]'h10).toNat : Int) == 48) = true := by rw [h2]; rfl
      have HV : Hid (v = false) := Lib.hid (by rw [hv.out, fitsB, if_pos ⟨h1, by rw [hat, h2]⟩])
      clear hv hat h2
      go_enter Tryd.func84, Tryd.ntmps84
      go_wp2_with fail
      go_ret
      exact ⟨by rw [HV.out]; rfl, rfl⟩
    · have e1 : (((t[0]'h10).toNat : Int) == 48) = false := by
        rw [beq_eq_false_iff_ne]
        intro e
        exact h2 (UInt8.toNat_inj.1 (show (t[0]'h10).toNat = 48 by omega))
      have HF : Hid (v = (decide (t.size < most.size) || (decide (t.size = most.size) && (Op.bytesLess t.toList most.toList || t.toList == most.toList)))) := Lib.hid (by rw [hv.out, fitsB, if_neg (fun h => h2 (by have := h.2; rw [hat] at this; exact Option.some.inj this))])
      clear hat h2
      rcases Nat.lt_trichotomy t.size most.size with h3 | h3 | h3
      · have h3i : (t.size : Int) < (most.size : Int) := by omega
        have HV : Hid (v = true) := Lib.hid (by rw [HF.out]; simp [h3])
        clear hv HF
        go_enter Tryd.func84, Tryd.ntmps84
        go_wp2_with fail
        go_ret
        exact ⟨by rw [HV.out]; rfl, rfl⟩
      · have h3i : (t.size : Int) = (most.size : Int) := by omega
        have P1 : (decide ((t.size : Int) < (most.size : Int))) = false := by simp; omega
        have P2 : ((t.size : Int) == (most.size : Int)) = true := by simpa using h3i
        have HV : Hid (v = (Op.bytesLess t.toList most.toList || t.toList == most.toList)) := Lib.hid (by rw [HF.out]; simp [h3])
        have h4 : ¬ (t.size : Int) < (most.size : Int) := by omega
        clear hv HF h3i h3
        go_enter Tryd.func84, Tryd.ntmps84
        go_wp2_with fail
        go_ret
        exact ⟨by rw [HV.out]; rfl, rfl⟩
      · have h3i : (most.size : Int) < (t.size : Int) := by omega
        have P2 : ((t.size : Int) == (most.size : Int)) = false := by rw [beq_eq_false_iff_ne]; omega
        have P1 : (decide ((t.size : Int) < (most.size : Int))) = false := by simp; omega
        have HV : Hid (v = false) := Lib.hid (by rw [HF.out, decide_eq_false (show ¬ t.size < most.size by omega), decide_eq_false (show ¬ t.size = most.size by omega)]; rfl)
        have h4 : ¬ (t.size : Int) < (most.size : Int) := by omega
        clear hv HF h3
        go_enter Tryd.func84, Tryd.ntmps84
        go_wp2_with fail
        go_ret
        exact ⟨by rw [HV.out]; rfl, rfl⟩
  · have h1i : (t.size : Int) ≤ 1 := by omega
    have HF : Hid (v = (decide (t.size < most.size) || (decide (t.size = most.size) && (Op.bytesLess t.toList most.toList || t.toList == most.toList)))) := Lib.hid (by rw [hv.out, fitsB, if_neg (fun h => h1 h.1)])
    clear h1
    rcases Nat.lt_trichotomy t.size most.size with h3 | h3 | h3
    · have h3i : (t.size : Int) < (most.size : Int) := by omega
      have HV : Hid (v = true) := Lib.hid (by rw [HF.out]; simp [h3])
      clear hv HF
      go_enter Tryd.func84, Tryd.ntmps84
      go_wp2_with fail
      go_ret
      exact ⟨by rw [HV.out]; rfl, rfl⟩
    · have h3i : (t.size : Int) = (most.size : Int) := by omega
      have P1 : (decide ((t.size : Int) < (most.size : Int))) = false := by simp; omega
      have P2 : ((t.size : Int) == (most.size : Int)) = true := by simpa using h3i
      have HV : Hid (v = (Op.bytesLess t.toList most.toList || t.toList == most.toList)) := Lib.hid (by rw [HF.out]; simp [h3])
      have h4 : ¬ (t.size : Int) < (most.size : Int) := by omega
      clear hv HF h3i h3
      go_enter Tryd.func84, Tryd.ntmps84
      go_wp2_with fail
      go_ret
      exact ⟨by rw [HV.out]; rfl, rfl⟩
    · have h3i : (most.size : Int) < (t.size : Int) := by omega
      have P2 : ((t.size : Int) == (most.size : Int)) = false := by rw [beq_eq_false_iff_ne]; omega
      have P1 : (decide ((t.size : Int) < (most.size : Int))) = false := by simp; omega
      have HV : Hid (v = false) := Lib.hid (by rw [HF.out, decide_eq_false (show ¬ t.size < most.size by omega), decide_eq_false (show ¬ t.size = most.size by omega)]; rfl)
      have h4 : ¬ (t.size : Int) < (most.size : Int) := by omega
      clear hv HF h3
      go_enter Tryd.func84, Tryd.ntmps84
      go_wp2_with fail
      go_ret
      exact ⟨by rw [HV.out]; rfl, rfl⟩
end Go.Proofs.YtdlnabjledhiiaaDoor

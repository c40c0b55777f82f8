/-
  The walk of code.reader's digits: the number that stands there, or what is wrong.
-/
import Derived.Test.YtdlnabjledhiiaaDoorCvRd
import Derived.Deep.LoopGhost
namespace Go.Proofs.YtdlnabjledhiiaaDoor
open Go.RowKit
set_option linter.unusedVariables false

/-- 'digits': so many rounds, the place where it began, the number so far, the place. -/
def digitsL (s : ByteArray) (most from_ : Nat) : Nat → Nat → Nat → Nat × Bool × Nat × Int
  | 0, _, a => (0, false, a, 10)
  | f + 1, n, a => if h : a < s.size then
      (if s[a].toNat < 48 ∨ 57 < s[a].toNat then (if a = from_ then (0, false, a, 11) else (n, true, a, 0))
       else if (from_ < a ∧ n = 0) ∨ (most - (s[a].toNat - 48)) / 10 < n then (0, false, a, 11)
       else digitsL s most from_ f (10 * n + (s[a].toNat - 48)) (a + 1))
    else (0, false, a, 10)

/-- What a reading of digits leaves. -/
def DigPost (r : Nat) (s : ByteArray) (m : Int) (w : World) (x : Nat × Bool × Nat × Int) (e : Ending) (w' : World) : Prop :=
  e = .returned (.tuple #[.int .u64 (x.1 : Int), .bool x.2.1]) ∧ RdAt w' r s (x.2.2.1 : Int) m x.2.2.2 ∧ w.grownBy w' (some r)

theorem grown_drew_l {w w' : World} {n : Nat} {row : Option Nat} (h : (w.drewN n).grownBy w' row) : w.grownBy w' row := ⟨h.os, h.tape, h.output, h.size, h.block⟩

set_option maxRecDepth 20000 in
set_option maxHeartbeats 4000000 in
theorem digits_any (r : Nat) (s : ByteArray) (a0 : Nat) (m : Int) (most : Nat) (w : World) (h : RdAt w r s a0 m 0) (hs : s.size ≤ maxLen) (ha : a0 ≤ s.size) (h9 : 9 ≤ most) (hm : most ≤ 9223372036854775808)
    (x : Nat × Bool × Nat × Int) (hx : Hid (x = digitsL s most a0 (s.size + 1 - a0) 0 a0)) :
    Calls Tryd.prog 49 #[.pointer (some ⟨r, 0, none⟩), .int .u64 (most : Int)] w (DigPost r s m w x) := by
  unfold maxLen at hs
  have H := Lib.hid h
  have c1 := h.c1
  clear h
  go_enter Tryd.func49, Tryd.ntmps49
  go_wp2_with fail
  go_quiet (fail)
  clear c1
  go_wp2_with fail
  go_loopg [6] (s.size + 1 - a0) (fun gk v6 wr => ∃ n a : Nat, gk = s.size + 1 - a ∧ v6 = .int .u64 (n : Int) ∧ a0 ≤ a ∧ a ≤ s.size ∧ n ≤ most ∧ Hid (RdAt wr r s (a : Int) m 0) ∧ Hid (w.grownBy wr (some r)) ∧ Hid (x = digitsL s most a0 (s.size + 1 - a) n a))
  case atStart => exact ⟨0, a0, rfl, rfl, Nat.le_refl _, ha, Nat.zero_le _, Lib.hid (H.out.drewN _), Lib.hid (grown_drewN (World.grownBy.refl _ _) _), hx⟩
  case round =>
    obtain ⟨n, a, rfl, rfl, ha0, has, hn, hR, hG, hX⟩ := hrel
    have c0 := hR.out.c0
    have c1 := hR.out.c1
    have f1 := hR.out.free 1 (by decide)
    by_cases h1 : a < s.size
    · have hi : (a : Int) < (s.size : Int) := by omega
      have hfu : s.size + 1 - a = (s.size - a) + 1 := by omega
      have hst := hX.out
      rw [hfu, digitsL, dif_pos h1] at hst
      have hfx : s.size - a = s.size + 1 - (a + 1) := by omega
      rw [hfx] at hst
      by_cases hd : s[a].toNat < 48 ∨ 57 < s[a].toNat
      · rw [if_pos hd] at hst
        have hpk : ((s[a].toNat : Int) < 48) ∨ ((48 : Int) ≤ (s[a].toNat : Int) ∧ (57 : Int) < (s[a].toNat : Int)) := by omega
        by_cases h2 : a = a0
        · subst h2
          rw [if_pos rfl] at hst
          have HS := Lib.hid hst
          clear hst hd hX
          rcases hpk with hk | ⟨hk1, hk2⟩
          all_goals
            go_wp2_with fail
            go_quiet (fail)
            go_wp2_with fail
            go_quiet (fail)
            go_wp2_with fail
            refine (fail_any r s a m 11 _ (hR.out.drewN _)).mono ?_
            rintro e w1 ⟨rfl, hr1, hg1⟩
            have HR := Lib.hid hr1
            have HG := Lib.hid (grown_trans hG.out (grown_drew_l hg1))
            clear hr1 hg1
            go_wp2_with fail
            go_ret2
            rw [HS.out]
            exact ⟨rfl, HR.out, HG.out⟩
        · rw [if_neg h2] at hst
          have hne : ((a : Int) == (a0 : Int)) = false := by rw [beq_eq_false_iff_ne]; omega
          have HS := Lib.hid hst
          clear hst hd hX h2
          rcases hpk with hk | ⟨hk1, hk2⟩
          all_goals
            go_wp2_with fail
            go_quiet (fail)
            go_wp2_with fail
            go_quiet (fail)
            go_wp2_with fail
            go_ret2
            rw [HS.out]
            exact ⟨rfl, hR.out.drewN _, grown_drewN hG.out _⟩
      · rw [if_neg hd] at hst
        have hk1 : (48 : Int) ≤ (s[a].toNat : Int) := by omega
        have hk2 : (s[a].toNat : Int) ≤ 57 := by omega
        obtain ⟨d, hdd⟩ : ∃ d : Nat, s[a].toNat = d + 48 := ⟨s[a].toNat - 48, by omega⟩
        have hd9 : d ≤ 9 := by omega
        have hds : s[a].toNat - 48 = d := by omega
        rw [hds] at hst
        have hwd : (s[a].toNat : Int) - 48 = (d : Int) := by omega
        clear hds hd
        by_cases hz : a0 < a ∧ n = 0
        · rw [if_pos (.inl hz)] at hst
          obtain ⟨hz1, rfl⟩ := hz
          have hzi : (a0 : Int) < (a : Int) := by omega
          have HS := Lib.hid hst
          clear hst hX hdd
          go_wp2_with fail
          go_quiet (fail)
          go_wp2_with fail
          go_quiet (fail)
          go_wp2_with fail
          refine (fail_any r s a m 11 _ (hR.out.drewN _)).mono ?_
          rintro e w1 ⟨rfl, hr1, hg1⟩
          have HR := Lib.hid hr1
          have HG := Lib.hid (grown_trans hG.out (grown_drew_l hg1))
          clear hr1 hg1
          go_wp2_with fail
          go_ret2
          rw [HS.out]
          exact ⟨rfl, HR.out, HG.out⟩
        · have hq : ((most : Int) - (d : Int)) = ((most - d : Nat) : Int) := by omega
          have hgd : ((a0 : Int) < (a : Int) ∧ ((n : Int) == 0) = false) ∨ (a : Int) ≤ (a0 : Int) := by
            rcases Nat.lt_or_ge a0 a with h | h
            · exact .inl ⟨by omega, by rw [beq_eq_false_iff_ne]; intro e; exact hz ⟨h, by omega⟩⟩
            · exact .inr (by omega)
          by_cases hov : (most - d) / 10 < n
          · rw [if_pos (.inr hov)] at hst
            have hovi : ((most - d : Nat) : Int) / 10 < (n : Int) := by omega
            have HST := Lib.hid hst
            clear hst hX hdd hov hz
            rcases hgd with ⟨hg1, hg2⟩ | hg1
            all_goals
              go_wp2_with fail
              go_quiet (fail)
              go_wp2_with fail
              go_quiet (fail)
              go_wp2_with fail
              refine (fail_any r s a m 11 _ (hR.out.drewN _)).mono ?_
              rintro e w1 ⟨rfl, hr1, hg1⟩
              have HR := Lib.hid hr1
              have HG := Lib.hid (grown_trans hG.out (grown_drew_l hg1))
              clear hr1 hg1
              go_wp2_with fail
              go_ret2
              rw [HST.out]
              exact ⟨rfl, HR.out, HG.out⟩
          · rw [if_neg (fun e => e.elim hz hov)] at hst
            have hovi : (n : Int) ≤ ((most - d : Nat) : Int) / 10 := by omega
            have hnm : 10 * n + d ≤ most := by omega
            have HST := Lib.hid hst
            clear hst hX hdd hov hz
            rcases hgd with ⟨hg1, hg2⟩ | hg1
            all_goals
              go_wp2_with fail
              go_quiet (fail)
              go_wp2_with fail
              go_quiet (fail)
              go_wp2_with fail
              go_roundg (s.size + 1 - (a + 1))
              case rel => exact ⟨10 * n + d, a + 1, rfl, by go_num, by omega, by omega, hnm, Lib.hid (by simpa using (hR.out.drewN _).setAt ((a : Int) + 1)), Lib.hid (grown_trans hG.out (grown_trans (grown_drewN (World.grownBy.refl _ _) _) (grown_setCell _ _ _ _))), HST⟩
              case measure => omega
    · have hi : (s.size : Int) ≤ (a : Int) := by omega
      have hfu : s.size + 1 - a = (s.size - a) + 1 := by omega
      have hst := hX.out
      rw [hfu, digitsL, dif_neg h1] at hst
      have HS := Lib.hid hst
      clear hst hX
      go_wp2_with fail
      go_quiet (fail)
      go_wp2_with fail
      refine (fail_any r s a m 10 _ (hR.out.drewN _)).mono ?_
      rintro e w1 ⟨rfl, hr1, hg1⟩
      have HR := Lib.hid hr1
      have HG := Lib.hid (grown_trans hG.out (grown_drew_l hg1))
      clear hr1 hg1
      go_wp2_with fail
      go_ret2
      rw [HS.out]
      exact ⟨rfl, HR.out, HG.out⟩
end Go.Proofs.YtdlnabjledhiiaaDoor

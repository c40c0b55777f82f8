/-
  The walk of code.reader's number. (Written by wip/mknum.py.)
-/
import Derived.Test.YtdlnabjledhiiaaDoorCvDig
namespace Go.Proofs.YtdlnabjledhiiaaDoor
open Go.RowKit
set_option linter.unusedVariables false

theorem digitsL_ok (s : ByteArray) (most from_ : Nat) (h9 : 9 ≤ most) : ∀ (f n a : Nat), from_ ≤ a → n ≤ most → (digitsL s most from_ f n a).2.1 = true →
    (digitsL s most from_ f n a).2.2.2 = 0 ∧ (digitsL s most from_ f n a).1 ≤ most ∧ from_ < (digitsL s most from_ f n a).2.2.1 ∧ (digitsL s most from_ f n a).2.2.1 < s.size
  | 0, n, a, _, _, h => by simp [digitsL] at h
  | f + 1, n, a, ha, hn, h => by
    rw [digitsL] at h ⊢
    by_cases h1 : a < s.size
    · rw [dif_pos h1] at h ⊢
      by_cases h2 : s[a].toNat < 48 ∨ 57 < s[a].toNat
      · rw [if_pos h2] at h ⊢
        by_cases h3 : a = from_
        · rw [if_pos h3] at h; simp at h
        · rw [if_neg h3] at h ⊢
          exact ⟨rfl, hn, by dsimp only; omega, h1⟩
      · rw [if_neg h2] at h ⊢
        by_cases h3 : (from_ < a ∧ n = 0) ∨ (most - (s[a].toNat - 48)) / 10 < n
        · rw [if_pos h3] at h; simp at h
        · rw [if_neg h3] at h ⊢
          have hnm : 10 * n + (s[a].toNat - 48) ≤ most := by
            have : ¬ (most - (s[a].toNat - 48)) / 10 < n := fun e => h3 (.inr e)
            omega
          exact digitsL_ok s most from_ h9 f _ (a + 1) (by omega) hnm h
    · rw [dif_neg h1] at h; simp at h
theorem mustL_ok (s : ByteArray) (a : Nat) (c : UInt8) (h : (mustL s a c).1 = true) : (mustL s a c).2.2 = 0 := by
  unfold mustL at h ⊢
  split
  · split
    · rfl
    · rename_i h1 h2; rw [dif_pos h1, if_neg h2] at h; simp at h
  · rename_i h1; rw [dif_neg h1] at h; simp at h
theorem conv_neg (n : Nat) (h : n ≤ 9223372036854775808) : wrap64 (-(wrap64 (n : Int))) = -(n : Int) := by
  unfold wrap64; omega
theorem conv_pos (n : Nat) (h : n ≤ 9223372036854775807) : IntKind.i64.wrap (n : Int) = (n : Int) := by
  rw [IntKind.wrap_i64]; omega

/-- What stands behind a sign. -/
def numTail (s : ByteArray) (most : Nat) (minus : Bool) (a : Nat) : Int × Bool × Nat × Int :=
  if (digitsL s most a (s.size + 1 - a) 0 a).2.1 = true then
    (if (mustL s (digitsL s most a (s.size + 1 - a) 0 a).2.2.1 101).1 = true then ((if minus = true then -((digitsL s most a (s.size + 1 - a) 0 a).1 : Int) else ((digitsL s most a (s.size + 1 - a) 0 a).1 : Int)), true, (mustL s (digitsL s most a (s.size + 1 - a) 0 a).2.2.1 101).2.1, 0)
     else (0, false, (mustL s (digitsL s most a (s.size + 1 - a) 0 a).2.2.1 101).2.1, (mustL s (digitsL s most a (s.size + 1 - a) 0 a).2.2.1 101).2.2))
  else (0, false, (digitsL s most a (s.size + 1 - a) 0 a).2.2.1, (digitsL s most a (s.size + 1 - a) 0 a).2.2.2)
def numberL (s : ByteArray) (a : Nat) : Int × Bool × Nat × Int :=
  if s.data.toList[a]? = some 45 then (if s.data.toList[a + 1]? = some 48 then (0, false, a + 1, 11) else numTail s 9223372036854775808 true (a + 1))
  else numTail s 9223372036854775807 false a
theorem at_lt {s : ByteArray} {a : Nat} (h : a < s.size) : s.data.toList[a]? = some s[a] := by
  rw [List.getElem?_eq_getElem (by simpa using h)]; rfl
theorem at_ge {s : ByteArray} {a : Nat} (h : ¬ a < s.size) : s.data.toList[a]? = none := List.getElem?_eq_none (by simp; omega)
theorem byte_eq {x c : UInt8} (h : x = c) : ((x.toNat : Int) == (c.toNat : Int)) = true := by rw [h]; simp
theorem byte_ne {x c : UInt8} (h : x ≠ c) : ((x.toNat : Int) == (c.toNat : Int)) = false := by
  rw [beq_eq_false_iff_ne]; intro e; exact h (UInt8.toNat_inj.1 (by omega))

/-- What a reading of a number leaves. -/
def NumPost (r : Nat) (s : ByteArray) (m : Int) (w : World) (x : Int × Bool × Nat × Int) (e : Ending) (w' : World) : Prop :=
  e = .returned (.tuple #[.int .i64 x.1, .bool x.2.1]) ∧ RdAt w' r s (x.2.2.1 : Int) m x.2.2.2 ∧ w.grownBy w' (some r)

set_option maxRecDepth 20000 in
set_option maxHeartbeats 4000000 in
theorem number_any (r : Nat) (s : ByteArray) (a : Nat) (m : Int) (w : World) (h : RdAt w r s a m 0) (hs : s.size ≤ maxLen) (ha : a ≤ s.size) (x : Int × Bool × Nat × Int) (hx : Hid (x = numberL s a)) :
    Calls Tryd.prog 48 #[.pointer (some ⟨r, 0, none⟩)] w (NumPost r s m w x) := by
  have hs' : s.size ≤ 9223372036854775807 := by unfold maxLen at hs; omega
  have H := Lib.hid h
  have c0 := h.c0
  have c1 := h.c1
  have f1 := h.free 1 (by decide)
  clear h
  by_cases h1 : a < s.size
  · have hi : (a : Int) < (s.size : Int) := by omega
    by_cases h2 : s[a] = 45
    · have hb : ((s[a].toNat : Int) == 45) = true := byte_eq h2
      obtain ⟨A, hA⟩ : ∃ A, A = a + 1 := ⟨_, rfl⟩
      have hnx : numberL s a = if s.data.toList[A]? = some 48 then (0, false, A, 11) else numTail s 9223372036854775808 true A := by
        subst hA; unfold numberL; rw [at_lt h1, h2]; simp
      have HR8 : Hid (∀ n, RdAt ((w.drewN n).setCell ⟨r, 1, none⟩ (.int .i64 ((a : Int) + 1))) r s (A : Int) m 0) := Lib.hid (fun n => by rw [show (A : Int) = (a : Int) + 1 by omega]; simpa using (H.out.drewN n).setAt ((a : Int) + 1))
      have hAs : A ≤ s.size := by omega
      clear h2 hA
      by_cases h3 : s.data.toList[A]? = some 48
      · rw [if_pos h3] at hnx
        have h4 : A < s.size := by
          rcases Nat.lt_or_ge A s.size with h | h
          · exact h
          · rw [at_ge (by omega)] at h3; cases h3
        rw [at_lt h4] at h3
        have hb2 : ((s[A].toNat : Int) == 48) = true := byte_eq (Option.some.inj h3)
        have hi2 : (A : Int) < (s.size : Int) := by omega
        have HX : Hid (x = (0, false, A, 11)) := Lib.hid (by rw [hx.out, hnx])
        clear h3 hnx hx
        go_enter Tryd.func48, Tryd.ntmps48
        go_wp2_with fail
        go_quiet (fail)
        go_wp2_with fail
        have hR8 := Lib.hid (HR8.out nq)
        have hG8 : Hid (w.grownBy ((w.drewN nq).setCell ⟨r, 1, none⟩ (.int .i64 ((a : Int) + 1))) (some r)) := Lib.hid (grown_trans (grown_drewN (World.grownBy.refl _ _) _) (grown_setCell _ _ _ _))
        clear c0 c1 f1 HR8
        generalize ((w.drewN nq).setCell ⟨r, 1, none⟩ (.int .i64 ((a : Int) + 1))) = w8 at *
        have d0 := hR8.out.c0
        have d1 := hR8.out.c1
        go_quiet (fail)
        go_wp2_with fail
        refine (fail_any r s (A : Int) m 11 _ (hR8.out.drewN _)).mono ?_
        rintro e w1 ⟨rfl, hr1, hg1⟩
        have HR := Lib.hid hr1
        have HG := Lib.hid (grown_trans hG8.out (grown_drew_l hg1))
        clear hr1 hg1
        go_wp2_with fail
        go_ret2
        rw [HX.out]
        exact ⟨rfl, HR.out, HG.out⟩
      · rw [if_neg h3] at hnx
        have HT : Hid (x = numTail s 9223372036854775808 true A) := Lib.hid (by rw [hx.out, hnx])
        by_cases h4 : A < s.size
        · rw [at_lt h4] at h3
          have hb2 : ((s[A].toNat : Int) == 48) = false := byte_ne (c := 48) (fun e => h3 (by rw [e]))
          have hi2 : (A : Int) < (s.size : Int) := by omega
          clear h3 hnx hx
          go_enter Tryd.func48, Tryd.ntmps48
          go_wp2_with fail
          go_quiet (fail)
          go_wp2_with fail
          have hR8 := Lib.hid (HR8.out nq)
          have hG8 : Hid (w.grownBy ((w.drewN nq).setCell ⟨r, 1, none⟩ (.int .i64 ((a : Int) + 1))) (some r)) := Lib.hid (grown_trans (grown_drewN (World.grownBy.refl _ _) _) (grown_setCell _ _ _ _))
          clear c0 c1 f1 HR8
          generalize ((w.drewN nq).setCell ⟨r, 1, none⟩ (.int .i64 ((a : Int) + 1))) = w8 at *
          have d0 := hR8.out.c0
          have d1 := hR8.out.c1
          go_quiet (fail)
          go_wp2_with fail
          refine (digits_any r s (A) m 9223372036854775808 _ (hR8.out.drewN _) hs (by omega) (by decide) (by decide) _ (Lib.hid rfl)).mono ?_
          rintro e w1 ⟨rfl, hr1, hg1⟩
          have hst := HT.out
          rw [numTail] at hst
          have hok := digitsL_ok s 9223372036854775808 (A) (by decide) (s.size + 1 - (A)) 0 (A) (Nat.le_refl _) (Nat.zero_le _)
          generalize digitsL s 9223372036854775808 (A) (s.size + 1 - (A)) 0 (A) = x1 at *
          obtain ⟨n1, ok1, a1, b1⟩ := x1
          have HR1 := Lib.hid hr1
          have HG1 := Lib.hid (grown_trans (grown_trans hG8.out (grown_drewN (World.grownBy.refl _ _) _)) hg1)
          clear hr1 hg1
          cases ok1 with
          | false =>
            dsimp only at hst
            rw [if_neg (by decide)] at hst
            have HST := Lib.hid hst
            clear hst hok
            go_wp2_with fail
            go_ret2
            rw [HST.out]
            exact ⟨rfl, HR1.out, HG1.out⟩
          | true =>
            obtain ⟨hb1, hn1, ha1, ha2⟩ := hok rfl
            dsimp only at hb1 hn1 ha1 ha2
            subst hb1
            dsimp only at hst
            rw [if_pos rfl] at hst
            have HST0 := Lib.hid hst
            clear hst hok
            go_wp2_with fail
            refine (must_any r s a1 m 101 w1 HR1.out hs _ (Lib.hid rfl)).mono ?_
            rintro e w2 ⟨rfl, hr2, hg2⟩
            have hst := HST0.out
            clear HST0
            have hz := mustL_ok s a1 101
            generalize mustL s a1 101 = y at *
            obtain ⟨ok2, a2, b2⟩ := y
            have HR2 := Lib.hid hr2
            have HG2 := Lib.hid (grown_trans HG1.out hg2)
            clear hr2 hg2
            cases ok2 with
            | false =>
              dsimp only at hst
              rw [if_neg (by decide)] at hst
              have HST := Lib.hid hst
              clear hst hz
              go_wp2_with fail
              go_ret2
              rw [HST.out]
              exact ⟨rfl, HR2.out, HG2.out⟩
            | true =>
              have hb2 := hz rfl
              dsimp only at hb2
              subst hb2
              dsimp only at hst
              rw [if_pos rfl] at hst
              have HST := Lib.hid hst
              clear hst hz
              have hw1 := conv_neg n1 hn1
              go_wp2_with fail
              go_ret2
              rw [HST.out]
              exact ⟨by simp [hw1], HR2.out, HG2.out⟩
        · have hi2 : (s.size : Int) ≤ (A : Int) := by omega
          clear h3 hnx hx
          go_enter Tryd.func48, Tryd.ntmps48
          go_wp2_with fail
          go_quiet (fail)
          go_wp2_with fail
          have hR8 := Lib.hid (HR8.out nq)
          have hG8 : Hid (w.grownBy ((w.drewN nq).setCell ⟨r, 1, none⟩ (.int .i64 ((a : Int) + 1))) (some r)) := Lib.hid (grown_trans (grown_drewN (World.grownBy.refl _ _) _) (grown_setCell _ _ _ _))
          clear c0 c1 f1 HR8
          generalize ((w.drewN nq).setCell ⟨r, 1, none⟩ (.int .i64 ((a : Int) + 1))) = w8 at *
          have d0 := hR8.out.c0
          have d1 := hR8.out.c1
          go_quiet (fail)
          go_wp2_with fail
          refine (digits_any r s (A) m 9223372036854775808 _ (hR8.out.drewN _) hs (by omega) (by decide) (by decide) _ (Lib.hid rfl)).mono ?_
          rintro e w1 ⟨rfl, hr1, hg1⟩
          have hst := HT.out
          rw [numTail] at hst
          have hok := digitsL_ok s 9223372036854775808 (A) (by decide) (s.size + 1 - (A)) 0 (A) (Nat.le_refl _) (Nat.zero_le _)
          generalize digitsL s 9223372036854775808 (A) (s.size + 1 - (A)) 0 (A) = x1 at *
          obtain ⟨n1, ok1, a1, b1⟩ := x1
          have HR1 := Lib.hid hr1
          have HG1 := Lib.hid (grown_trans (grown_trans hG8.out (grown_drewN (World.grownBy.refl _ _) _)) hg1)
          clear hr1 hg1
          cases ok1 with
          | false =>
            dsimp only at hst
            rw [if_neg (by decide)] at hst
            have HST := Lib.hid hst
            clear hst hok
            go_wp2_with fail
            go_ret2
            rw [HST.out]
            exact ⟨rfl, HR1.out, HG1.out⟩
          | true =>
            obtain ⟨hb1, hn1, ha1, ha2⟩ := hok rfl
            dsimp only at hb1 hn1 ha1 ha2
            omega
    · have hb : ((s[a].toNat : Int) == 45) = false := byte_ne h2
      have HT : Hid (x = numTail s 9223372036854775807 false a) := Lib.hid (by rw [hx.out, numberL, at_lt h1, if_neg (by simpa using h2)])
      clear h2 hx
      go_enter Tryd.func48, Tryd.ntmps48
      go_wp2_with fail
      go_quiet (fail)
      go_wp2_with fail
      refine (digits_any r s (a) m 9223372036854775807 _ (H.out.drewN _) hs ha (by decide) (by decide) _ (Lib.hid rfl)).mono ?_
      rintro e w1 ⟨rfl, hr1, hg1⟩
      have hst := HT.out
      rw [numTail] at hst
      have hok := digitsL_ok s 9223372036854775807 (a) (by decide) (s.size + 1 - (a)) 0 (a) (Nat.le_refl _) (Nat.zero_le _)
      generalize digitsL s 9223372036854775807 (a) (s.size + 1 - (a)) 0 (a) = x1 at *
      obtain ⟨n1, ok1, a1, b1⟩ := x1
      have HR1 := Lib.hid hr1
      have HG1 := Lib.hid (grown_trans (grown_drewN (World.grownBy.refl _ _) _) hg1)
      clear hr1 hg1
      cases ok1 with
      | false =>
        dsimp only at hst
        rw [if_neg (by decide)] at hst
        have HST := Lib.hid hst
        clear hst hok
        go_wp2_with fail
        go_ret2
        rw [HST.out]
        exact ⟨rfl, HR1.out, HG1.out⟩
      | true =>
        obtain ⟨hb1, hn1, ha1, ha2⟩ := hok rfl
        dsimp only at hb1 hn1 ha1 ha2
        subst hb1
        dsimp only at hst
        rw [if_pos rfl] at hst
        have HST0 := Lib.hid hst
        clear hst hok
        go_wp2_with fail
        refine (must_any r s a1 m 101 w1 HR1.out hs _ (Lib.hid rfl)).mono ?_
        rintro e w2 ⟨rfl, hr2, hg2⟩
        have hst := HST0.out
        clear HST0
        have hz := mustL_ok s a1 101
        generalize mustL s a1 101 = y at *
        obtain ⟨ok2, a2, b2⟩ := y
        have HR2 := Lib.hid hr2
        have HG2 := Lib.hid (grown_trans HG1.out hg2)
        clear hr2 hg2
        cases ok2 with
        | false =>
          dsimp only at hst
          rw [if_neg (by decide)] at hst
          have HST := Lib.hid hst
          clear hst hz
          go_wp2_with fail
          go_ret2
          rw [HST.out]
          exact ⟨rfl, HR2.out, HG2.out⟩
        | true =>
          have hb2 := hz rfl
          dsimp only at hb2
          subst hb2
          dsimp only at hst
          rw [if_pos rfl] at hst
          have HST := Lib.hid hst
          clear hst hz
          have hw1 := conv_pos n1 hn1
          go_wp2_with fail
          go_ret2
          rw [HST.out]
          exact ⟨by simp, HR2.out, HG2.out⟩
  · have hi : (s.size : Int) ≤ (a : Int) := by omega
    have HT : Hid (x = numTail s 9223372036854775807 false a) := Lib.hid (by rw [hx.out, numberL, at_ge h1, if_neg (by simp)])
    clear hx
    go_enter Tryd.func48, Tryd.ntmps48
    go_wp2_with fail
    go_quiet (fail)
    go_wp2_with fail
    refine (digits_any r s (a) m 9223372036854775807 _ (H.out.drewN _) hs ha (by decide) (by decide) _ (Lib.hid rfl)).mono ?_
    rintro e w1 ⟨rfl, hr1, hg1⟩
    have hst := HT.out
    rw [numTail] at hst
    have hok := digitsL_ok s 9223372036854775807 (a) (by decide) (s.size + 1 - (a)) 0 (a) (Nat.le_refl _) (Nat.zero_le _)
    generalize digitsL s 9223372036854775807 (a) (s.size + 1 - (a)) 0 (a) = x1 at *
    obtain ⟨n1, ok1, a1, b1⟩ := x1
    have HR1 := Lib.hid hr1
    have HG1 := Lib.hid (grown_trans (grown_drewN (World.grownBy.refl _ _) _) hg1)
    clear hr1 hg1
    cases ok1 with
    | false =>
      dsimp only at hst
      rw [if_neg (by decide)] at hst
      have HST := Lib.hid hst
      clear hst hok
      go_wp2_with fail
      go_ret2
      rw [HST.out]
      exact ⟨rfl, HR1.out, HG1.out⟩
    | true =>
      obtain ⟨hb1, hn1, ha1, ha2⟩ := hok rfl
      dsimp only at hb1 hn1 ha1 ha2
      omega
end Go.Proofs.YtdlnabjledhiiaaDoor

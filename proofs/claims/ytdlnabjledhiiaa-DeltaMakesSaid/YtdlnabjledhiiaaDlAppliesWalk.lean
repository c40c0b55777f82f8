/-
  The walk of the law DeltaApplies: it returns true on any text, any delta, any number; new blocks alone are made.
-/
import Derived.Test.YtdlnabjledhiiaaDlRefApply
namespace Go.Proofs.Ytdlnabjledhiiaa
open Go.RowKit
set_option linter.unusedVariables false

def oneOp : List DOp := [⟨0, 1, ⟨#[]⟩⟩]
theorem oneOp_sl (w : World) (t : TypeId) : OpsSl (w.alloc (.cells #[.int .i64 0, .int .i64 1, .string ⟨#[]⟩] t)) (some ⟨w.heap.size, 0, none⟩) 1 oneOp :=
  ⟨rfl, .inr ⟨w.heap.size, 0, rfl, fun i hi => by
    have : i = 0 := by simp [oneOp] at hi; omega
    subst this
    exact ⟨cell_three0 w _ _ _ _, cell_three1 w _ _ _ _, cell_three2 w _ _ _ _⟩⟩⟩
/-- delta.Right of one copy of a byte. -/
theorem rightOne (w : World) (t : TypeId) : Calls Try.prog 19 #[.slice (some ⟨w.heap.size, 0, none⟩) 1 1] (w.alloc (.cells #[.int .i64 0, .int .i64 1, .string ⟨#[]⟩] t)) fun e w' => e = .returned (.bool true) ∧ Below w.heap.size w w' := by
  refine (right_any _ 1 1 oneOp _ (oneOp_sl w t) (by decide) true (Lib.hid (by decide))).mono ?_
  rintro e w' ⟨rfl, hb⟩
  exact ⟨rfl, below_then ((Below.refl _ w).alloc (Nat.le_refl _) _) hb (by simp)⟩

set_option maxRecDepth 100000 in
set_option maxHeartbeats 4000000 in
theorem deltaApplies_main (old : ByteArray) (a : Option Addr) (n c : Nat) (d : List DOp) (m : Int) (w : World) (h : OpsSl w a n d) (hn : n ≤ c) (hc : c ≤ 9223372036854775807) (ho : old.size ≤ maxLen) :
    Calls Try.prog 5 #[.string old, .slice a n c, .int .i64 m] w fun e w' => e = .returned (.bool true) ∧ Below w.heap.size w w' := by
  have hf := Lib.hid (few_any a n c d w h hn)
  have HO := Lib.hid ho
  clear h ho
  go_enter Try.func5, Try.ntmps5
  go_wp2_with fail
  refine hf.out.mono ?_
  rintro e w' ⟨⟨k, rfl, h, hk⟩, rfl⟩
  have hk9 : k ≤ 9223372036854775807 := by omega
  clear hf
  generalize fewD d = d at *
  have H := Lib.hid h
  have h1 := Lib.hid (fun W (hb : Below w.heap.size w W) => apply_any old a k c d m W (h.keep hb) hk9 HO.out)
  have h2 := Lib.hid (fun W (hb : Below w.heap.size w W) => refApply_any old a k c d m W (h.keep hb) hk9 HO.out)
  have hq : ((applyAll old.data.toList d m).2 == (applyAll old.data.toList d m).2) = true := by simp
  generalize applyAll old.data.toList d m = r at *
  obtain ⟨rt, re⟩ := r
  generalize strOf (rt, re).1 = rs at *
  have hs : (rs.toList == rs.toList) = true := by simp
  have hq : (re == re) = true := by simp
  clear h
  go_wp2_with fail
  refine (h1.out _ (Below.refl _ _)).mono ?_
  rintro e w1 ⟨rfl, hb1⟩
  have HB1 := Lib.hid hb1
  clear hb1
  go_wp2_with fail
  refine (h2.out _ HB1.out).mono ?_
  rintro e w2 ⟨rfl, hb2⟩
  have HB2 := Lib.hid (below_then HB1.out hb2 HB1.out.size)
  clear hb2 HB1
  obtain ⟨v, hv⟩ : ∃ v, v = rightB d := ⟨_, rfl⟩
  have HV := Lib.hid hv
  have hvv : (v == v) = true := by simp
  clear hv
  go_wp2_with fail
  refine (refRight_any a k c d _ (H.out.keep HB2.out) hk9 v HV).mono ?_
  rintro e w3 ⟨rfl, hb3⟩
  have HB3 := Lib.hid (below_then HB2.out hb3 HB2.out.size)
  clear hb3 HB2
  cases v with
  | true =>
    go_wp2_with fail
    refine (refSize_any a k c d _ (H.out.keep HB3.out) HV.out.symm _ (Lib.hid rfl)).mono ?_
    rintro e w4 ⟨rfl, hb4⟩
    have HB4 := Lib.hid (below_then HB3.out hb4 HB3.out.size)
    clear hb4 HB3
    go_wp2_with fail
    refine (right_any a k c d _ (H.out.keep HB4.out) hk9 true HV).mono ?_
    rintro e w5 ⟨rfl, hb5⟩
    have HB5 := Lib.hid (below_then HB4.out hb5 HB4.out.size)
    clear hb5 HB4
    go_wp2_with fail
    refine (refRight_any a k c d _ (H.out.keep HB5.out) hk9 true HV).mono ?_
    rintro e w6 ⟨rfl, hb6⟩
    have HB6 := Lib.hid (below_then HB5.out hb6 HB5.out.size)
    clear hb6 HB5
    have hsz : Hid ((weigh d : Int) = if rightB d = true then (weigh d : Int) else 0) := Lib.hid (by rw [if_pos HV.out.symm])
    obtain ⟨wd, hwd⟩ : ∃ wd, wd = weigh d := ⟨_, rfl⟩
    rw [← hwd]
    have hsz : Hid ((wd : Int) = if rightB d = true then (weigh d : Int) else 0) := Lib.hid (by rw [hwd]; exact hsz.out)
    have hww : ((wd : Int) == (wd : Int)) = true := by simp
    clear hwd
    go_wp2_with fail
    refine (size_any a k c d _ (H.out.keep HB6.out) hk9 _ hsz).mono ?_
    rintro e w7 ⟨rfl, hb7⟩
    have HB7 := Lib.hid (below_then HB6.out hb7 HB6.out.size)
    clear hb7 HB6
    go_wp2_with fail
    refine (rightOne _ _).mono ?_
    rintro e w8 ⟨rfl, hb8⟩
    have HB8 := Lib.hid (below_then HB7.out hb8 HB7.out.size)
    clear hb8 HB7
    go_wp2_with fail
    go_ret
    exact ⟨rfl, HB8.out⟩
  | false =>
    go_wp2_with fail
    refine (right_any a k c d _ (H.out.keep HB3.out) hk9 false HV).mono ?_
    rintro e w5 ⟨rfl, hb5⟩
    have HB5 := Lib.hid (below_then HB3.out hb5 HB3.out.size)
    clear hb5 HB3
    go_wp2_with fail
    refine (refRight_any a k c d _ (H.out.keep HB5.out) hk9 false HV).mono ?_
    rintro e w6 ⟨rfl, hb6⟩
    have HB6 := Lib.hid (below_then HB5.out hb6 HB5.out.size)
    clear hb6 HB5
    have hsz : Hid ((0 : Int) = if rightB d = true then (weigh d : Int) else 0) := Lib.hid (by rw [if_neg (by rw [← HV.out]; decide)])
    go_wp2_with fail
    refine (size_any a k c d _ (H.out.keep HB6.out) hk9 _ hsz).mono ?_
    rintro e w7 ⟨rfl, hb7⟩
    have HB7 := Lib.hid (below_then HB6.out hb7 HB6.out.size)
    clear hb7 HB6
    go_wp2_with fail
    refine (rightOne _ _).mono ?_
    rintro e w8 ⟨rfl, hb8⟩
    have HB8 := Lib.hid (below_then HB7.out hb8 HB7.out.size)
    clear hb8 HB7
    go_wp2_with fail
    go_ret
    exact ⟨rfl, HB8.out⟩

theorem deltaApplies_walk (old : ByteArray) (a : Option Addr) (n c : Nat) (d : List DOp) (m : Int) (w : World) (ho : old.size ≤ maxLen) (h : OpsSl w a n d ∧ n ≤ c ∧ c ≤ maxLen ∧ (a = none → c = 0) ∧ ∀ o ∈ d, o.wf) (hm : (Lit.int .i64 m).wf = true) :
    Calls Try.prog 5 #[.string old, .slice a n c, .int .i64 m] w fun e w' => e = .returned (.bool true) ∧ Below w.heap.size w w' :=
  deltaApplies_main old a n c d m w h.1 h.2.1 h.2.2.1 ho
end Go.Proofs.Ytdlnabjledhiiaa

/-
  The walks of isName, onlyOf, size and of the reference's Name and Size: new blocks alone are made; the sizes within reach.
-/
import Derived.Test.YtjppommhamaibaaDk
import Derived.WalkSpells
import Derived.WalkLawsBesides
import Derived.Deep.LoopGhost
namespace Go.Proofs.Ytjppommhamaibaa
open Go.RowKit
set_option linter.unusedVariables false

theorem okc_cases (c : UInt8) : (okc c = true ∧ ((97 ≤ c.toNat ∧ c.toNat ≤ 122) ∨ (48 ≤ c.toNat ∧ c.toNat ≤ 57) ∨ c.toNat = 46)) ∨ (okc c = false ∧ (c.toNat < 46 ∨ c.toNat = 47 ∨ (58 ≤ c.toNat ∧ c.toNat < 97) ∨ 123 ≤ c.toNat)) := by
  have h46 : (c == 46) = decide (c.toNat = 46) := by
    rw [Bool.eq_iff_iff]; simp
    constructor
    · intro h; subst h; rfl
    · intro h; exact UInt8.toNat_inj.1 h
  unfold okc
  rw [h46]
  by_cases h1 : 97 ≤ c.toNat <;> by_cases h2 : c.toNat ≤ 122 <;> by_cases h3 : 48 ≤ c.toNat <;> by_cases h4 : c.toNat ≤ 57 <;> by_cases h5 : c.toNat = 46 <;> simp [h1, h2, h3, h4, h5] <;> omega
theorem onlyB_step {s : ByteArray} {k : Nat} (hk : k < s.size) (h : (s.data.toList.take k).all okc = true) : (s.data.toList.take (k + 1)).all okc = okc s[k] := by
  rw [take_snoc s k hk, List.all_append, h]; simp
theorem onlyB_no {s : ByteArray} {k : Nat} (hk : k < s.size) (h : okc s[k] = false) : onlyB s = false := by
  unfold onlyB
  rw [List.all_eq_false]
  refine ⟨s[k], ?_, by simp [h]⟩
  rw [byte_at s k hk]
  exact List.getElem_mem _

theorem size0 {t : ByteArray} (h : t.size = 0) : t = ⟨#[]⟩ := by
  obtain ⟨⟨l⟩⟩ := t
  have : l = [] := List.eq_nil_of_length_eq_zero h
  subst this; rfl
theorem isEmpty_no {t : ByteArray} (h : t.size ≠ 0) : t.toList.isEmpty = false := by
  rw [ByteArray.toList_eq]
  cases hl : t.data.toList with
  | nil => exact absurd (by rw [size_len, hl]; rfl) h
  | cons a r => rfl
theorem eqNil_no {t : ByteArray} (h : t.size ≠ 0) : (t.toList == []) = false := by
  rw [ByteArray.toList_eq, beq_eq_false_iff_ne]
  intro e
  exact h (by rw [size_len, e]; rfl)
set_option maxHeartbeats 1000000 in
theorem onlyOf_any (s : ByteArray) (hs : s.size ≤ maxLen) (w : World) (v : Bool) (hv : Hid (v = onlyB s)) :
    Calls Try.prog 45 #[.string s] w fun e w' => e = .returned (.bool v) ∧ w = w' := by
  unfold maxLen at hs
  go_enter Try.func45, Try.ntmps45
  go_wp2
  go_loopg [3, 4, 7] s.size (fun gk v3 v4 i wr => ∃ k : Nat, k ≤ s.size ∧ gk = s.size - k ∧ i = .int .i64 k ∧ w = wr ∧ Hid ((s.data.toList.take k).all okc = true))
  case atStart => exact ⟨0, Nat.zero_le _, rfl, rfl, rfl, Lib.hid (by simp)⟩
  case round =>
    obtain ⟨k, hk, rfl, rfl, rfl, ha⟩ := hrel
    by_cases hlt : k < s.size
    · have hst := onlyB_step hlt ha.out
      rcases okc_cases s[k] with ⟨h1, h2⟩ | ⟨h1, h2⟩
      · rw [h1] at hst
        have hst := Lib.hid hst
        clear h1 ha hv
        rcases h2 with ⟨h2, h3⟩ | ⟨h2, h3⟩ | h2
        · have hq : ((s[k].toNat : Int) == 46) = false := by rw [beq_eq_false_iff_ne]; omega
          go_wp2_with fail
          go_roundg (s.size - (k + 1))
          case rel => exact ⟨k + 1, by omega, rfl, by go_num, rfl, hst⟩
          case measure => omega
        · have hq : ((s[k].toNat : Int) == 46) = false := by rw [beq_eq_false_iff_ne]; omega
          go_wp2_with fail
          go_roundg (s.size - (k + 1))
          case rel => exact ⟨k + 1, by omega, rfl, by go_num, rfl, hst⟩
          case measure => omega
        · have hq : ((s[k].toNat : Int) == 46) = true := by rw [beq_iff_eq]; omega
          go_wp2_with fail
          go_roundg (s.size - (k + 1))
          case rel => exact ⟨k + 1, by omega, rfl, by go_num, rfl, hst⟩
          case measure => omega
      · have hno := Lib.hid (onlyB_no hlt h1)
        clear h1 ha hst
        have hq : ((s[k].toNat : Int) == 46) = false := by rw [beq_eq_false_iff_ne]; omega
        rcases h2 with h2 | h2 | ⟨h2, h3⟩ | h2
        all_goals
          first | (have hi : decide ((s[k].toNat : Int) ≤ 122) = false := by rw [decide_eq_false_iff_not]; omega) | skip
          first | (have hi : decide ((s[k].toNat : Int) ≤ 57) = false := by rw [decide_eq_false_iff_not]; omega) | skip
          go_wp2_with fail
          go_ret
          exact ⟨ret_bool (by rw [hv.out, hno.out]), rfl⟩
    · have hyes := Lib.hid (show onlyB s = true by unfold onlyB; rw [← take_all s k hlt]; exact ha.out)
      go_wp2_with fail
      go_ret
      exact ⟨ret_bool (by rw [hv.out, hyes.out]), rfl⟩

theorem nmOk_empty {s : ByteArray} (h : s.size = 0) : nmOk s = false := by
  unfold nmOk
  simp [h]
theorem nmOk_long {s : ByteArray} (h : 16 < s.size) : nmOk s = false := by
  unfold nmOk
  rw [decide_eq_false (show ¬ s.size ≤ 16 by omega), Bool.and_false]
theorem nmOk_mid {s : ByteArray} (h : s.size ≠ 0) (h2 : s.size ≤ 16) : nmOk s = onlyB s := by
  unfold nmOk
  rw [decide_eq_true (show 1 ≤ s.size by omega), decide_eq_true h2, Bool.and_true, Bool.and_true]
set_option maxHeartbeats 400000 in
theorem isName_any (s : ByteArray) (hs : s.size ≤ maxLen) (w : World) (v : Bool) (hv : Hid (v = nmOk s)) :
    Calls Try.prog 26 #[.string s] w fun e w' => e = .returned (.bool v) ∧ w = w' := by
  by_cases h0 : s.size = 0
  · have hf := Lib.hid (hv.out.trans (nmOk_empty h0))
    have hs : s = ⟨#[]⟩ := size0 h0
    subst hs
    clear hv h0
    go_enter Try.func26, Try.ntmps26
    go_wp2
    go_ret
    exact ⟨ret_bool (by rw [hf.out]), rfl⟩
  · have e1 := isEmpty_no h0
    have e2 := eqNil_no h0
    by_cases h16 : s.size ≤ 16
    · have hc := Lib.hid (onlyOf_any s hs w v (Lib.hid (hv.out.trans (nmOk_mid h0 h16))))
      have hi : (s.size : Int) ≤ 16 := by omega
      clear hv h0
      go_enter Try.func26, Try.ntmps26
      go_wp2_with fail
      refine hc.out.mono ?_
      rintro e w1 ⟨rfl, rfl⟩
      go_wp2_with fail
      go_ret
      exact ⟨rfl, rfl⟩
    · have hf := Lib.hid (hv.out.trans (nmOk_long (by omega)))
      have hi : (16 : Int) < (s.size : Int) := by omega
      clear hv h0
      go_enter Try.func26, Try.ntmps26
      go_wp2_with fail
      go_ret
      exact ⟨ret_bool (by rw [hf.out]), rfl⟩

set_option maxHeartbeats 1000000 in
theorem refName_any (s : ByteArray) (hs : s.size ≤ maxLen) (w : World) (v : Bool) (hv : Hid (v = nmOk s)) :
    Calls Try.prog 18 #[.string s] w fun e w' => e = .returned (.bool v) ∧ w = w' := by
  unfold maxLen at hs
  go_enter Try.func18, Try.ntmps18
  go_wp2
  go_loopg [3, 4] s.size (fun gk i v4 wr => ∃ k : Nat, k ≤ s.size ∧ gk = s.size - k ∧ i = .int .i64 k ∧ w = wr ∧ Hid ((s.data.toList.take k).all okc = true))
  case atStart => exact ⟨0, Nat.zero_le _, rfl, rfl, rfl, Lib.hid (by simp)⟩
  case round =>
    obtain ⟨k, hk, rfl, rfl, rfl, ha⟩ := hrel
    by_cases hlt : k < s.size
    · have hst := onlyB_step hlt ha.out
      rcases okc_cases s[k] with ⟨h1, h2⟩ | ⟨h1, h2⟩
      · rw [h1] at hst
        have hst := Lib.hid hst
        clear h1 ha hv
        rcases h2 with ⟨h2, h3⟩ | ⟨h2, h3⟩ | h2
        · have hq : ((s[k].toNat : Int) == 46) = false := by rw [beq_eq_false_iff_ne]; omega
          go_wp2_with fail
          go_roundg (s.size - (k + 1))
          case rel => exact ⟨k + 1, by omega, rfl, by go_num, rfl, hst⟩
          case measure => omega
        · have hq : ((s[k].toNat : Int) == 46) = false := by rw [beq_eq_false_iff_ne]; omega
          go_wp2_with fail
          go_roundg (s.size - (k + 1))
          case rel => exact ⟨k + 1, by omega, rfl, by go_num, rfl, hst⟩
          case measure => omega
        · have hq : ((s[k].toNat : Int) == 46) = true := by rw [beq_iff_eq]; omega
          go_wp2_with fail
          go_roundg (s.size - (k + 1))
          case rel => exact ⟨k + 1, by omega, rfl, by go_num, rfl, hst⟩
          case measure => omega
      · have hno := Lib.hid (show v = false by rw [hv.out]; unfold nmOk; rw [onlyB_no hlt h1]; rfl)
        clear h1 ha hst hv
        have hq : ((s[k].toNat : Int) == 46) = false := by rw [beq_eq_false_iff_ne]; omega
        rcases h2 with h2 | h2 | ⟨h2, h3⟩ | h2
        all_goals
          first | (have hi : decide ((s[k].toNat : Int) ≤ 122) = false := by rw [decide_eq_false_iff_not]; omega) | skip
          first | (have hi : decide ((s[k].toNat : Int) ≤ 57) = false := by rw [decide_eq_false_iff_not]; omega) | skip
          go_wp2_with fail
          go_ret
          exact ⟨ret_bool (by rw [hno.out]), rfl⟩
    · have hyes : onlyB s = true := by unfold onlyB; rw [← take_all s k hlt]; exact ha.out
      have hfin := Lib.hid (show v = (decide (1 ≤ s.size) && decide (s.size ≤ 16)) by rw [hv.out]; unfold nmOk; rw [hyes]; rfl)
      have hle := Lib.hid hk
      clear hyes ha hv
      by_cases h0 : s.size = 0
      · have hi : (s.size : Int) < 1 := by omega
        go_wp2_with fail
        go_ret
        exact ⟨ret_bool (by rw [hfin.out, Bool.eq_iff_iff]; simp; omega), rfl⟩
      · by_cases h16 : s.size ≤ 16
        · have hi : (1 : Int) ≤ (s.size : Int) := by omega
          have hj : (s.size : Int) ≤ 16 := by omega
          go_wp2_with fail
          go_ret
          exact ⟨ret_bool (by rw [hfin.out, Bool.eq_iff_iff]; simp; omega), rfl⟩
        · have hi : (1 : Int) ≤ (s.size : Int) := by omega
          have hj : (16 : Int) < (s.size : Int) := by omega
          go_wp2_with fail
          go_ret
          exact ⟨ret_bool (by rw [hfin.out, Bool.eq_iff_iff]; simp; omega), rfl⟩
end Go.Proofs.Ytjppommhamaibaa

/-
  What code.Get reads, code.Put writes again: the plain law; without a condition.
-/
import Derived.Test.YtdlnabjledhiiaaDoorPvPut
import Derived.Test.YtdlnabjledhiiaaDoorCvGet
namespace Go.Proofs.YtdlnabjledhiiaaDoor
open Go.RowKit
set_option linter.unusedVariables false

theorem numTail_inR (s : ByteArray) (most : Nat) (h9 : 9 ≤ most) (mi : Bool) (hm : most ≤ if mi = true then 9223372036854775808 else 9223372036854775807) (a : Nat) : -9223372036854775808 ≤ (numTail s most mi a).1 ∧ (numTail s most mi a).1 ≤ 9223372036854775807 := by
  unfold numTail
  by_cases h1 : (digitsL s most a (s.size + 1 - a) 0 a).2.1 = true
  · rw [if_pos h1]
    obtain ⟨-, h2, -, -⟩ := digitsL_ok s most a h9 (s.size + 1 - a) 0 a (Nat.le_refl _) (Nat.zero_le _) h1
    generalize digitsL s most a (s.size + 1 - a) 0 a = x at *
    by_cases h3 : (mustL s x.2.2.1 101).1 = true
    · rw [if_pos h3]
      cases mi with
      | true => simp only [if_true] at hm ⊢; omega
      | false => simp only [Bool.false_eq_true, if_false] at hm ⊢; omega
    · rw [if_neg h3]; simp
  · rw [if_neg h1]; simp
theorem numberL_inR (s : ByteArray) (a : Nat) : -9223372036854775808 ≤ (numberL s a).1 ∧ (numberL s a).1 ≤ 9223372036854775807 := by
  unfold numberL
  by_cases h1 : s.data.toList[a]? = some 45
  · rw [if_pos h1]
    by_cases h2 : s.data.toList[a + 1]? = some 48
    · rw [if_pos h2]; simp
    · rw [if_neg h2]; exact numTail_inR s _ (by decide) true (by simp) _
  · rw [if_neg h1]; exact numTail_inR s _ (by decide) false (by simp) _
theorem zero_inR : zeroV.InR := by simp [zeroV, V.InR, allInR]
theorem allInR_snoc {l : List V} {x : V} (h : allInR l) (hx : x.InR) : allInR (l ++ [x]) := by
  induction l with
  | nil => simp [allInR, hx]
  | cons y r ih => simp only [List.cons_append, allInR] at h ⊢; exact ⟨h.1, ih h.2⟩
theorem rdText_inR (s : ByteArray) (a m : Nat) : (rdText s a m).v.InR := by
  unfold rdText
  split
  · split
    · split
      · exact zero_inR
      · simp [V.InR, allInR]
    · exact zero_inR
  · exact zero_inR
theorem rdList_inR (rd : Nat → Nat → Rd) (s : ByteArray) (hrd : ∀ a m, (rd a m).v.InR) : ∀ (f a m : Nat) (acc : List V), allInR acc → (rdList rd s f a m acc).v.InR
  | 0, a, m, acc, _ => zero_inR
  | f + 1, a, m, acc, h => by
    rw [rdList]
    split
    · simp [V.InR]; exact h
    · split
      · exact rdList_inR rd s hrd f _ _ _ (allInR_snoc h (hrd a m))
      · exact zero_inR
theorem rdValue_inR (s : ByteArray) : ∀ (d a m : Nat), (rdValue s d a m).v.InR
  | 0, a, m => by
    rw [rdValue]
    split
    · exact zero_inR
    · split <;> exact zero_inR
  | d + 1, a, m => by
    rw [rdValue]
    split
    · exact zero_inR
    · split
      · split
        · exact zero_inR
        · split
          · have := numberL_inR s (a + 1); simp only [rdNumber, V.InR, allInR]; exact ⟨this, trivial⟩
          · split
            · exact rdList_inR _ s (rdValue_inR s d) _ _ _ _ (by simp [allInR])
            · exact rdText_inR s a _
      · exact zero_inR

theorem getL_no (s : ByteArray) (h : (getL s).bad ≠ 0) : (getL s).v = zeroV ∧ (getL s).at_ ≤ s.size := by
  have hno := rdValue_no s 30 0 0 (Nat.zero_le _) (by decide)
  unfold getL at h ⊢
  by_cases h1 : 131072 < s.size
  · rw [if_pos h1]; exact ⟨rfl, Nat.zero_le _⟩
  · rw [if_neg h1] at h ⊢
    by_cases h2 : (rdValue s 30 0 0).ok = true
    · rw [if_pos h2] at h ⊢
      by_cases h3 : (rdValue s 30 0 0).at_ < s.size
      · rw [if_pos h3]; exact ⟨rfl, Nat.le_of_lt h3⟩
      · rw [if_neg h3] at h; exact absurd rfl h
    · rw [if_neg h2]; exact ⟨rfl, (hno h2).2⟩
theorem toArray_of (s : ByteArray) {l : List UInt8} (h : s.data.toList = l) : (⟨l.toArray⟩ : ByteArray) = s := by
  subst h; cases s; simp
theorem getL_ok (s : ByteArray) (h : (getL s).bad = 0) : (getL s).at_ = 0 ∧ putGot (getL s).v = (s, 0) ∧ (getL s).v.cnt ≤ 4000 ∧ (getL s).v.InR ∧ (putL (getL s).v).length ≤ 131072 := by
  have hno := rdValue_no s 30 0 0 (Nat.zero_le _) (by decide)
  have hgd := rdValue_good s 30 0 0 (by decide)
  have hsp := rdValue_spell s 30 0 0
  have hin := rdValue_inR s 30 0 0
  unfold getL at h ⊢
  by_cases h1 : 131072 < s.size
  · rw [if_pos h1] at h; simp at h
  · rw [if_neg h1] at h ⊢
    by_cases h2 : (rdValue s 30 0 0).ok = true
    · rw [if_pos h2] at h ⊢
      by_cases h3 : (rdValue s 30 0 0).at_ < s.size
      · rw [if_pos h3] at h; simp at h
      · rw [if_neg h3]
        obtain ⟨-, -, h4, h5⟩ := hgd h2
        obtain ⟨h6, h7, h8⟩ := hsp h2
        generalize rdValue s 30 0 0 = x at *
        have hc : x.v.cnt ≤ 4000 := by omega
        have hlist : s.data.toList = putL x.v := by
          have e : from_ s x.at_ = [] := by
            unfold from_
            exact List.drop_eq_nil_of_le (by simp; omega)
          rw [e, List.append_nil] at h6
          simpa [from_] using h6
        have hlen : (putL x.v).length = s.size := by rw [← hlist]; simp
        have hright : rightL x.v = 0 := by
          have := rightGo_to x.v 30 1 ⟨0, 0, true⟩ h8 (by dsimp only; omega)
          dsimp only at this
          unfold rightL
          dsimp only
          rw [if_neg (by omega), if_neg (by omega), this.2.2]
          rfl
        refine ⟨rfl, ?_, hc, hin, by dsimp only; omega⟩
        unfold putGot
        dsimp only
        rw [hright, if_neg (by simp), if_neg (by omega), toArray_of s hlist]
    · rw [if_neg h2] at h
      exact absurd h (hno h2).1
end Go.Proofs.YtdlnabjledhiiaaDoor

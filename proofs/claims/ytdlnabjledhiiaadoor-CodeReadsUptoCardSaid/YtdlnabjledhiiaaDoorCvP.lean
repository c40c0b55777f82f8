/-
  What code.reader's value reads, by definition; without a condition.
-/
import Derived.Test.YtdlnabjledhiiaaDoorCv
import Derived.Test.YtdlnabjledhiiaaDoorCvNum
namespace Go.Proofs.YtdlnabjledhiiaaDoor
open Go.RowKit
set_option linter.unusedVariables false

def zeroV : V := .mk 0 0 ⟨#[]⟩ []
/-- What a reading tells: the value, whether it is one, the place, how many values there were, what is wrong. -/
structure Rd where
  v : V
  ok : Bool
  at_ : Nat
  many : Nat
  bad : Int
def Rd.no (at_ many : Nat) (bad : Int) : Rd := ⟨zeroV, false, at_, many, bad⟩

/-- A list's values, up to its end; 'rd' reads one. -/
def rdList (rd : Nat → Nat → Rd) (s : ByteArray) : Nat → Nat → Nat → List V → Rd
  | 0, a, m, _ => Rd.no a m 10
  | f + 1, a, m, acc => if s.data.toList[a]? = some 101 then ⟨.mk 3 0 ⟨#[]⟩ acc, true, a + 1, m, 0⟩
    else if (rd a m).ok = true then rdList rd s f (rd a m).at_ (rd a m).many (acc ++ [(rd a m).v]) else Rd.no (rd a m).at_ (rd a m).many (rd a m).bad
/-- A text, at its length's first digit. -/
def rdText (s : ByteArray) (a m : Nat) : Rd :=
  if (digitsL s 131072 a (s.size + 1 - a) 0 a).2.1 = true then
    (if (mustL s (digitsL s 131072 a (s.size + 1 - a) 0 a).2.2.1 58).1 = true then
      (if s.size - (mustL s (digitsL s 131072 a (s.size + 1 - a) 0 a).2.2.1 58).2.1 < (digitsL s 131072 a (s.size + 1 - a) 0 a).1 then Rd.no s.size m 10
       else ⟨.mk 2 0 (s.extract (mustL s (digitsL s 131072 a (s.size + 1 - a) 0 a).2.2.1 58).2.1 ((mustL s (digitsL s 131072 a (s.size + 1 - a) 0 a).2.2.1 58).2.1 + (digitsL s 131072 a (s.size + 1 - a) 0 a).1)) [], true, (mustL s (digitsL s 131072 a (s.size + 1 - a) 0 a).2.2.1 58).2.1 + (digitsL s 131072 a (s.size + 1 - a) 0 a).1, m, 0⟩)
     else Rd.no (mustL s (digitsL s 131072 a (s.size + 1 - a) 0 a).2.2.1 58).2.1 m (mustL s (digitsL s 131072 a (s.size + 1 - a) 0 a).2.2.1 58).2.2)
  else Rd.no (digitsL s 131072 a (s.size + 1 - a) 0 a).2.2.1 m (digitsL s 131072 a (s.size + 1 - a) 0 a).2.2.2
def rdNumber (s : ByteArray) (a m : Nat) : Rd := ⟨.mk 1 (numberL s a).1 ⟨#[]⟩ [], (numberL s a).2.1, (numberL s a).2.2.1, m, (numberL s a).2.2.2⟩
/-- Can a value begin with this byte? -/
def begins (c : UInt8) : Bool := c == 105 || c == 108 || (decide (48 ≤ c.toNat) && decide (c.toNat ≤ 57))
/-- One value; so many may stand within one another. -/
def rdValue (s : ByteArray) : Nat → Nat → Nat → Rd
  | 0, a, m => match s.data.toList[a]? with
    | none => Rd.no a m 10
    | some c => if begins c then Rd.no a m 12 else Rd.no a m 11
  | d + 1, a, m => match s.data.toList[a]? with
    | none => Rd.no a m 10
    | some c => if begins c then (if 4000 ≤ m then Rd.no a m 2
        else if c = 105 then rdNumber s (a + 1) (m + 1)
        else if c = 108 then rdList (rdValue s d) s (s.size + 1 - (a + 1)) (a + 1) (m + 1) []
        else rdText s a (m + 1))
      else Rd.no a m 11

/-- A reading that goes well goes on, stays within the text, and no error is left. -/
def Rd.Good (s : ByteArray) (a : Nat) (x : Rd) : Prop := x.ok = true → x.bad = 0 ∧ a < x.at_ ∧ x.at_ ≤ s.size ∧ x.many ≤ 4000
theorem mustL_at (s : ByteArray) (a : Nat) (c : UInt8) (h : (mustL s a c).1 = true) : (mustL s a c).2.1 = a + 1 ∧ a < s.size := by
  unfold mustL at h ⊢
  split
  · split
    · rename_i h1 h2; exact ⟨rfl, h1⟩
    · rename_i h1 h2; rw [dif_pos h1, if_neg h2] at h; simp at h
  · rename_i h1; rw [dif_neg h1] at h; simp at h
theorem rdText_good (s : ByteArray) (a m : Nat) : (rdText s a m).ok = true → (rdText s a m).bad = 0 ∧ a < (rdText s a m).at_ ∧ (rdText s a m).at_ ≤ s.size ∧ (rdText s a m).many = m := by
  intro h
  unfold rdText at h ⊢
  split
  · rename_i h1
    obtain ⟨-, -, h3, -⟩ := digitsL_ok s 131072 a (by decide) (s.size + 1 - a) 0 a (Nat.le_refl _) (Nat.zero_le _) h1
    split
    · rename_i h2
      obtain ⟨h4, h5⟩ := mustL_at s _ _ h2
      split
      · rename_i h6; rw [if_pos h1, if_pos h2, if_pos h6] at h; simp [Rd.no] at h
      · rename_i h6; exact ⟨rfl, by dsimp only; omega, by dsimp only; omega, rfl⟩
    · rename_i h2; rw [if_pos h1, if_neg h2] at h; simp [Rd.no] at h
  · rename_i h1; rw [if_neg h1] at h; simp [Rd.no] at h
theorem numTail_good (s : ByteArray) (most : Nat) (h9 : 9 ≤ most) (mi : Bool) (a : Nat) (h : (numTail s most mi a).2.1 = true) : (numTail s most mi a).2.2.2 = 0 ∧ a < (numTail s most mi a).2.2.1 ∧ (numTail s most mi a).2.2.1 ≤ s.size := by
  unfold numTail at h ⊢
  by_cases h1 : (digitsL s most a (s.size + 1 - a) 0 a).2.1 = true
  · rw [if_pos h1] at h ⊢
    obtain ⟨-, -, h3, -⟩ := digitsL_ok s most a h9 (s.size + 1 - a) 0 a (Nat.le_refl _) (Nat.zero_le _) h1
    by_cases h2 : (mustL s (digitsL s most a (s.size + 1 - a) 0 a).2.2.1 101).1 = true
    · rw [if_pos h2] at h ⊢
      obtain ⟨h4, h5⟩ := mustL_at s _ _ h2
      exact ⟨rfl, by dsimp only; omega, by dsimp only; omega⟩
    · rw [if_neg h2] at h; simp at h
  · rw [if_neg h1] at h; simp at h
theorem numberL_good (s : ByteArray) (a : Nat) (h : (numberL s a).2.1 = true) : (numberL s a).2.2.2 = 0 ∧ a < (numberL s a).2.2.1 ∧ (numberL s a).2.2.1 ≤ s.size := by
  unfold numberL at h ⊢
  by_cases h1 : s.data.toList[a]? = some 45
  · rw [if_pos h1] at h ⊢
    by_cases h2 : s.data.toList[a + 1]? = some 48
    · rw [if_pos h2] at h; simp at h
    · rw [if_neg h2] at h ⊢
      obtain ⟨h3, h4, h5⟩ := numTail_good s _ (by decide) _ _ h
      exact ⟨h3, by omega, h5⟩
  · rw [if_neg h1] at h ⊢
    exact numTail_good s _ (by decide) _ _ h
theorem at_some {s : ByteArray} {a : Nat} {c : UInt8} (h : s.data.toList[a]? = some c) : a < s.size := by
  have := (List.getElem?_eq_some_iff.1 h).1; simpa using this
theorem rdList_good (rd : Nat → Nat → Rd) (s : ByteArray) (hrd : ∀ a m, m ≤ 4000 → Rd.Good s a (rd a m)) : ∀ (f a m : Nat) (acc : List V), m ≤ 4000 → Rd.Good s a (rdList rd s f a m acc)
  | 0, a, m, acc, _ => by intro h; simp [rdList, Rd.no] at h
  | f + 1, a, m, acc, hm => by
    intro h
    rw [rdList] at h ⊢
    by_cases h1 : s.data.toList[a]? = some 101
    · rw [if_pos h1]
      have := at_some h1
      exact ⟨rfl, by dsimp only; omega, by dsimp only; omega, hm⟩
    · rw [if_neg h1] at h ⊢
      by_cases h2 : (rd a m).ok = true
      · rw [if_pos h2] at h ⊢
        obtain ⟨-, h4, h5, h6⟩ := hrd a m hm h2
        obtain ⟨h7, h8, h9, h10⟩ := rdList_good rd s hrd f _ _ _ h6 h
        exact ⟨h7, by omega, h9, h10⟩
      · rw [if_neg h2] at h; simp [Rd.no] at h
theorem rdValue_good (s : ByteArray) : ∀ (d a m : Nat), m ≤ 4000 → Rd.Good s a (rdValue s d a m)
  | 0, a, m, _ => by
    intro h
    rw [rdValue] at h
    cases hc : s.data.toList[a]? with
    | none => rw [hc] at h; simp [Rd.no] at h
    | some c => rw [hc] at h; dsimp only at h; split at h <;> simp [Rd.no] at h
  | d + 1, a, m, hm => by
    intro h
    rw [rdValue] at h ⊢
    cases hc : s.data.toList[a]? with
    | none => rw [hc] at h; simp [Rd.no] at h
    | some c =>
      rw [hc] at h
      dsimp only at h ⊢
      by_cases h1 : begins c = true
      · rw [if_pos h1] at h ⊢
        by_cases h2 : 4000 ≤ m
        · rw [if_pos h2] at h; simp [Rd.no] at h
        · rw [if_neg h2] at h ⊢
          by_cases h3 : c = 105
          · rw [if_pos h3] at h ⊢
            obtain ⟨h4, h5, h6⟩ := numberL_good s (a + 1) h
            exact ⟨h4, by dsimp only [rdNumber]; omega, h6, by dsimp only [rdNumber]; omega⟩
          · rw [if_neg h3] at h ⊢
            by_cases h4 : c = 108
            · rw [if_pos h4] at h ⊢
              obtain ⟨h5, h6, h7, h8⟩ := rdList_good _ s (rdValue_good s d) _ _ _ _ (by omega) h
              exact ⟨h5, by omega, h7, h8⟩
            · rw [if_neg h4] at h ⊢
              obtain ⟨h5, h6, h7, h8⟩ := rdText_good s a (m + 1) h
              exact ⟨h5, h6, h7, by omega⟩
      · rw [if_neg h1] at h; simp [Rd.no] at h
end Go.Proofs.YtdlnabjledhiiaaDoor

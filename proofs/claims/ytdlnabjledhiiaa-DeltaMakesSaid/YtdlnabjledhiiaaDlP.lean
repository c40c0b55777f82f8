/-
  What a delta makes of a text, in closed form: all pieces, one behind the other, if all fit and they are not too long. Without a condition.
-/
import Derived.Test.YtdlnabjledhiiaaDl
namespace Go.Proofs.Ytdlnabjledhiiaa
set_option linter.unusedVariables false

def catD (old : List UInt8) (d : List DOp) : List UInt8 := (d.map (DOp.piece old)).flatten
def fitD (n : Nat) (d : List DOp) : Bool := d.all (DOp.fits n)
theorem catD_cons (old : List UInt8) (o : DOp) (d : List DOp) : catD old (o :: d) = o.piece old ++ catD old d := by simp [catD]
theorem catD_append (old : List UInt8) (a b : List DOp) : catD old (a ++ b) = catD old a ++ catD old b := by simp [catD]
theorem fitD_append (n : Nat) (a b : List DOp) : fitD n (a ++ b) = (fitD n a && fitD n b) := by simp [fitD]

theorem applyD_good {old : List UInt8} {M : Nat} : ∀ (d : List DOp) (acc : List UInt8), fitD old.length d = true → acc.length + (catD old d).length ≤ M → applyD old M acc d = (acc ++ catD old d, 0)
  | [], acc, _, _ => by simp [applyD, catD]
  | o :: r, acc, hf, hl => by
    simp only [fitD, List.all_cons, Bool.and_eq_true] at hf
    rw [catD_cons, List.length_append] at hl
    rw [applyD, if_neg (by rw [hf.1]; decide), if_neg (by omega), applyD_good r _ hf.2 (by rw [List.length_append]; omega), catD_cons, List.append_assoc]
theorem applyD_long {old : List UInt8} {M : Nat} : ∀ (d : List DOp) (acc : List UInt8), fitD old.length d = true → acc.length ≤ M → M < acc.length + (catD old d).length → applyD old M acc d = ([], 2)
  | [], acc, _, h0, hl => by simp [catD] at hl; omega
  | o :: r, acc, hf, h0, hl => by
    simp only [fitD, List.all_cons, Bool.and_eq_true] at hf
    rw [catD_cons, List.length_append] at hl
    rw [applyD, if_neg (by rw [hf.1]; decide)]
    by_cases h : M < acc.length + (o.piece old).length
    · rw [if_pos h]
    · rw [if_neg h]
      exact applyD_long r _ hf.2 (by rw [List.length_append]; omega) (by rw [List.length_append]; omega)
theorem applyD_ok {old : List UInt8} {M : Nat} : ∀ (d : List DOp) (acc : List UInt8), acc.length ≤ M → (applyD old M acc d).2 = 0 → fitD old.length d = true ∧ acc.length + (catD old d).length ≤ M
  | [], acc, h0, _ => by simp [fitD, catD, h0]
  | o :: r, acc, h0, h => by
    rw [applyD] at h
    by_cases h1 : o.fits old.length = false
    · rw [if_pos h1] at h; cases h
    · rw [if_neg h1] at h
      by_cases h2 : M < acc.length + (o.piece old).length
      · rw [if_pos h2] at h; cases h
      · rw [if_neg h2] at h
        have := applyD_ok r _ (by rw [List.length_append]; omega) h
        rw [List.length_append] at this
        rw [catD_cons, List.length_append]
        refine ⟨?_, by omega⟩
        simp only [fitD, List.all_cons, Bool.and_eq_true]
        exact ⟨by simpa using h1, this.1⟩
theorem applyD_bad {old : List UInt8} {M : Nat} : ∀ (d : List DOp) (acc : List UInt8), (applyD old M acc d).2 ≠ 0 → (applyD old M acc d).1 = []
  | [], acc, h => absurd rfl h
  | o :: r, acc, h => by
    rw [applyD] at h ⊢
    by_cases h1 : o.fits old.length = false
    · rw [if_pos h1]
    · rw [if_neg h1] at h ⊢
      by_cases h2 : M < acc.length + (o.piece old).length
      · rw [if_pos h2]
      · rw [if_neg h2] at h ⊢
        exact applyD_bad r _ h
theorem applyD_iff {old : List UInt8} {M : Nat} (d : List DOp) : (applyD old M [] d).2 = 0 ↔ fitD old.length d = true ∧ (catD old d).length ≤ M := by
  constructor
  · intro h
    have := applyD_ok d [] (Nat.zero_le _) h
    simpa using this
  · intro ⟨h1, h2⟩
    rw [applyD_good d [] h1 (by simpa using h2)]
theorem clamp20 : clampM 1048576 = 1048576 := by decide

/-- What the law DeltaJoins asks. -/
theorem joins_bad {old : List UInt8} {a b : List DOp} (hl : a.length + b.length ≤ 200) (h : (applyAll old a 1048576).2 ≠ 0 ∨ (applyAll old b 1048576).2 ≠ 0) :
    (applyAll old (a ++ b) 1048576).2 ≠ 0 ∧ (applyAll old (a ++ b) 1048576).1 = [] := by
  unfold applyAll at h ⊢
  rw [clamp20] at h ⊢
  by_cases hr : rightB (a ++ b) = true
  · have hra : rightB a = true := by unfold rightB at hr ⊢; simp at hr ⊢; exact ⟨by omega, hr.2.1⟩
    have hrb : rightB b = true := by unfold rightB at hr ⊢; simp at hr ⊢; exact ⟨by omega, hr.2.2⟩
    rw [if_pos hra, if_pos hrb] at h
    rw [if_pos hr]
    have hne : (applyD old 1048576 [] (a ++ b)).2 ≠ 0 := by
      intro h0
      have h1 := (applyD_iff (a ++ b)).1 h0
      rw [fitD_append, catD_append, List.length_append, Bool.and_eq_true] at h1
      rcases h with h | h
      · exact h ((applyD_iff a).2 ⟨h1.1.1, by omega⟩)
      · exact h ((applyD_iff b).2 ⟨h1.1.2, by omega⟩)
    exact ⟨hne, applyD_bad _ _ hne⟩
  · rw [if_neg hr]; exact ⟨by decide, rfl⟩
theorem right_both {a b : List DOp} (hl : a.length + b.length ≤ 200) (ha : rightB a = true) (hb : rightB b = true) : rightB (a ++ b) = true := by
  unfold rightB at ha hb ⊢
  simp at ha hb ⊢
  exact ⟨by omega, ha.2, hb.2⟩
theorem ok_right {old : List UInt8} {a : List DOp} {m : Int} (h : (applyAll old a m).2 = 0) : rightB a = true := by
  unfold applyAll at h
  by_cases hr : rightB a = true
  · exact hr
  · rw [if_neg hr] at h; cases h
theorem applyAll_ok {old : List UInt8} {a : List DOp} (h : (applyAll old a 1048576).2 = 0) : fitD old.length a = true ∧ (catD old a).length ≤ 1048576 ∧ (applyAll old a 1048576).1 = catD old a := by
  have hr := ok_right h
  unfold applyAll at h ⊢
  rw [if_pos hr, clamp20] at h ⊢
  obtain ⟨h1, h2⟩ := (applyD_iff a).1 h
  refine ⟨h1, h2, ?_⟩
  rw [applyD_good a [] h1 (by simpa using h2)]; rfl
theorem applyAll_len {old : List UInt8} {a : List DOp} (h : (applyAll old a 1048576).2 = 0) : (applyAll old a 1048576).1.length ≤ 1048576 := by
  obtain ⟨_, h2, h3⟩ := applyAll_ok h
  rw [h3]; exact h2
theorem joins_good {old : List UInt8} {a b : List DOp} (hl : a.length + b.length ≤ 200) (ha : (applyAll old a 1048576).2 = 0) (hb : (applyAll old b 1048576).2 = 0) :
    applyAll old (a ++ b) 1048576 = if 1048576 < (applyAll old a 1048576).1.length + (applyAll old b 1048576).1.length then ([], 2) else ((applyAll old a 1048576).1 ++ (applyAll old b 1048576).1, 0) := by
  obtain ⟨a1, a2, a3⟩ := applyAll_ok ha
  obtain ⟨b1, b2, b3⟩ := applyAll_ok hb
  have hr := right_both hl (ok_right ha) (ok_right hb)
  rw [a3, b3, applyAll, if_pos hr, clamp20]
  have hf : fitD old.length (a ++ b) = true := by rw [fitD_append, a1, b1]; rfl
  by_cases h : 1048576 < (catD old a).length + (catD old b).length
  · rw [if_pos h, applyD_long _ _ hf (Nat.zero_le _) (by rw [catD_append, List.length_append]; simpa using h)]
  · rw [if_neg h, applyD_good _ _ hf (by rw [catD_append, List.length_append]; simp; omega), catD_append]; rfl
end Go.Proofs.Ytdlnabjledhiiaa

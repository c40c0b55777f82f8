/-
  strings.Join with an empty separator, over any slice of texts of at most 200000 bytes together: the texts, one behind the other.
-/
import Derived.Test.YtebpelfmllkpbaaSl
import Derived.Test.YtebpelfmllkpbaaCkTexts
import Derived.Test.YtebpelfmllkpbaaShelf
namespace Go.Proofs.Ytebpelfmllkpbaa
open Go.RowKit
set_option linter.unusedVariables false

theorem join_empty (xs : List (List UInt8)) : Lib.join xs [] = xs.flatten := by
  cases xs with
  | nil => rfl
  | cons x r => rw [Lib.join_cons]; simp [Lib.joinTail]
/-- The bytes of texts, one behind the other. -/
def flat (xs : List ByteArray) : List UInt8 := (xs.map fun s => s.data.toList).flatten
theorem join_flat (a : Option Addr) (n c : Nat) (xs : List ByteArray) (w : World) (h : SlAt w a n (strs xs)) (hc : n ≤ c) (hn : xs.length ≤ 200000) (hl : (flat xs).length ≤ 200000) :
    Calls Try.prog 30 #[.slice a n c, .string ⟨#[]⟩] w fun e w' => e = .returned (.string (strOf (flat xs))) ∧ Below w.heap.size w w' := by
  by_cases h0 : n = 0
  · subst h0
    have hx : xs = [] := by have := h.1; rw [strs_length] at this; exact List.eq_nil_of_length_eq_zero this.symm
    subst hx
    refine (Try.strings_Join_none a c ⟨#[]⟩ w).mono ?_
    rintro e w' ⟨rfl, rfl⟩
    exact ⟨rfl, Below.refl _ _⟩
  · obtain ⟨hnx, b, o, rfl, hcell⟩ := h.str (by omega)
    subst hnx
    have e1 : (⟨#[]⟩ : ByteArray).data.toList = [] := rfl
    refine (Try.strings_Join b o c xs ⟨#[]⟩ w ?_ ?_ (by omega) hc ?_).mono ?_
    · intro j x hj
      have hlt := (List.getElem?_eq_some_iff.1 hj).1
      rw [hcell j hlt, ← (List.getElem?_eq_some_iff.1 hj).2]
    · have := World.block_lt_of_cell? w _ (hcell 0 (by omega)); exact this
    · rw [e1, join_empty]; exact Nat.le_trans hl (by omega)
    · rintro e w' ⟨rfl, hb⟩
      rw [e1, join_empty]
      exact ⟨rfl, hb⟩
theorem flat_texts (s : ByteArray) : flat (texts s) = s.data.toList := by
  have : (texts s).map (fun s => s.data.toList) = chunks s.data.toList := by
    simp only [texts, List.map_map]
    conv => rhs; rw [← List.map_id (chunks s.data.toList)]
    rfl
  rw [flat, this, chunks_flat]
end Go.Proofs.Ytebpelfmllkpbaa

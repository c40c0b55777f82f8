/-
  The words of a line, as lists: what the library's cutting at blanks gives is what the reference's reading gives; without a condition.
-/
import Derived.Test.YtdlnabjledhiiaaDoorBase
import Derived.Lib.Split
import Derived.Lib.IndexBytes
import Derived.Lib.IndexMore
namespace Go.Proofs.YtdlnabjledhiiaaDoor
open Go.RowKit

/-- The reference: so many cuts left, the word on its way, the rest of the line. -/
def wordsL : Nat → List UInt8 → List UInt8 → List (List UInt8)
  | _, b, [] => [b]
  | k, b, c :: l => if c = 32 ∧ 0 < k then b :: wordsL (k - 1) [] l else wordsL k (b ++ [c]) l

theorem index32_hit (l : List UInt8) : Lib.index ((32 : UInt8) :: l) [32] = 0 := by simp [Lib.index, List.isPrefixOf]
theorem index32_miss (c : UInt8) (l : List UInt8) (h : c ≠ 32) : Lib.index (c :: l) [32] = if Lib.index l [32] == -1 then -1 else Lib.index l [32] + 1 := by
  have h1 : ((32 : UInt8) == c) = false := by rw [beq_eq_false_iff_ne]; exact fun e => h e.symm
  rw [Lib.index]
  simp [List.isPrefixOf, h1]

theorem splitK_ne (k : Nat) (l : List UInt8) : Lib.splitK [32] 0 k l ≠ [] := by
  cases k with
  | zero => simp [Lib.splitK]
  | succ k => rw [Lib.splitK]; split <;> simp

theorem wordsL_split : ∀ (l : List UInt8) (k : Nat) (b : List UInt8), ∃ h t, Lib.splitK [32] 0 k l = h :: t ∧ wordsL k b l = (b ++ h) :: t
  | [], k, b => by
    refine ⟨[], [], ?_, by simp [wordsL]⟩
    cases k with
    | zero => rfl
    | succ k => rw [Lib.splitK]; simp [Lib.index]
  | c :: l, 0, b => by
    obtain ⟨h, t, h1, h2⟩ := wordsL_split l 0 (b ++ [c])
    have h1' : Lib.splitK [32] 0 0 l = [l] := rfl
    rw [h1'] at h1
    cases h1
    refine ⟨c :: l, [], rfl, ?_⟩
    rw [wordsL, if_neg (fun e => absurd e.2 (Nat.lt_irrefl 0)), h2]
    simp
  | c :: l, k + 1, b => by
    by_cases hc : c = 32
    · subst hc
      obtain ⟨h, t, h1, h2⟩ := wordsL_split l k []
      refine ⟨[], Lib.splitK [32] 0 k l, ?_, ?_⟩
      · rw [Lib.splitK, index32_hit]
        simp
      · rw [wordsL, if_pos ⟨rfl, Nat.succ_pos k⟩, Nat.add_sub_cancel, h2, h1]
        simp
    · obtain ⟨h, t, h1, h2⟩ := wordsL_split l (k + 1) (b ++ [c])
      have hw : wordsL (k + 1) b (c :: l) = wordsL (k + 1) (b ++ [c]) l := by rw [wordsL, if_neg (fun e => hc e.1)]
      rw [Lib.splitK] at h1
      by_cases hm : Lib.index l [32] = -1
      · rw [if_pos (beq_iff_eq.2 hm)] at h1
        cases h1
        refine ⟨c :: l, [], ?_, by rw [hw, h2]; simp⟩
        rw [Lib.splitK, index32_miss c l hc, if_pos (beq_iff_eq.2 hm)]
        simp
      · rw [if_neg (fun e => hm (beq_iff_eq.1 e))] at h1
        have hge := Lib.index_ge l [32]
        have hi : (Lib.index l [32] + 1).toNat = (Lib.index l [32]).toNat + 1 := by omega
        have hne : ¬ (Lib.index l [32] + 1 == -1) = true := fun e => by have := beq_iff_eq.1 e; omega
        cases h1
        refine ⟨c :: l.take ((Lib.index l [32]).toNat + 0), Lib.splitK [32] 0 k (l.drop ((Lib.index l [32]).toNat + [(32 : UInt8)].length)), ?_, by rw [hw, h2]; simp⟩
        rw [Lib.splitK, index32_miss c l hc, if_neg (fun e => hm (beq_iff_eq.1 e)), if_neg hne, hi]
        simp

theorem wordsL_enough : ∀ (l : List UInt8) (k k' : Nat) (b : List UInt8), l.length ≤ k → l.length ≤ k' → wordsL k b l = wordsL k' b l
  | [], _, _, _, _, _ => by simp [wordsL]
  | c :: l, k, k', b, h, h' => by
    simp only [List.length_cons] at h h'
    have hk : 0 < k := by omega
    have hk' : 0 < k' := by omega
    rw [wordsL, wordsL]
    simp only [hk, hk', and_true]
    rw [wordsL_enough l (k - 1) (k' - 1) [] (by omega) (by omega), wordsL_enough l k k' (b ++ [c]) (by omega) (by omega)]

/-- The words of a line: at most six. -/
def wordsB (s : ByteArray) : List ByteArray := (wordsL 5 [] s.data.toList).map fun l => ⟨l.toArray⟩

theorem splitB_words (sep s : ByteArray) (hsep : sep.data.toList = [32]) : Lib.splitB sep 0 (min 6 (s.size + 1) - 1) s = wordsB s := by
  have hd := Lib.splitB_data sep 0 (min 6 (s.size + 1) - 1) s
  rw [hsep] at hd
  obtain ⟨h, t, h1, h2⟩ := wordsL_split s.data.toList (min 6 (s.size + 1) - 1) []
  have he : wordsL (min 6 (s.size + 1) - 1) [] s.data.toList = wordsL 5 [] s.data.toList := by
    by_cases h5 : 5 ≤ s.size
    · have : min 6 (s.size + 1) - 1 = 5 := by omega
      rw [this]
    · have hl : s.data.toList.length = s.size := by simp
      exact wordsL_enough _ _ _ _ (by omega) (by omega)
  rw [h1] at hd
  rw [List.nil_append] at h2
  rw [← h2, he] at hd
  unfold wordsB
  rw [← hd, List.map_map]
  exact (List.map_id'' (fun x => rfl) _).symm

theorem wordsB_length (s : ByteArray) : (wordsB s).length ≤ 6 := by
  have h : ∀ (l : List UInt8) (k : Nat) (b : List UInt8), (wordsL k b l).length ≤ k + 1
    := fun l => by
      induction l with
      | nil => intro k b; simp [wordsL]
      | cons c l ih =>
        intro k b
        rw [wordsL]
        split
        · rename_i h
          have := ih (k - 1) []
          rw [List.length_cons]; omega
        · exact ih k _
  unfold wordsB
  rw [List.length_map]
  exact h _ _ _
end Go.Proofs.YtdlnabjledhiiaaDoor

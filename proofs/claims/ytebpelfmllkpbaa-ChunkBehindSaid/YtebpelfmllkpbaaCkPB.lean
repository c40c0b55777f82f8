/-
  More on where texts are cut: the chunk at a place; what stands behind a chunk changes no cut ahead of it; why a chunk ends where it does; plain law, without a condition.
-/
import Derived.Test.YtebpelfmllkpbaaCkTexts
namespace Go.Proofs.Ytebpelfmllkpbaa

theorem app_list (a b : ByteArray) : (a ++ b).data.toList = a.data.toList ++ b.data.toList := by simp
theorem chunk_at {l : List UInt8} {r : List (List UInt8)} {k : Nat} (h : Cutting l r k) (hi : r.length < (chunks l).length) :
    k < l.length ∧ (chunks l)[r.length] = (l.drop k).take (chunkLen (l.drop k)) ∧ ((chunks l).length = r.length + 1 ↔ l.length ≤ k + chunkLen (l.drop k)) := by
  have hk : k < l.length := by
    rcases Nat.lt_or_ge k l.length with h1 | h1
    · exact h1
    · have := h.done h1; rw [this] at hi; omega
  have hne : l.drop k ≠ [] := by intro e; have := congrArg List.length e; simp at this; omega
  have hc := h.chunks
  rw [chunks_cons _ hne] at hc
  refine ⟨hk, ?_, ?_⟩
  · have h1 : (chunks l)[r.length]? = some ((l.drop k).take (chunkLen (l.drop k))) := by
      rw [hc, List.getElem?_append_right (Nat.le_refl _), Nat.sub_self]; rfl
    exact (List.getElem?_eq_some_iff.1 h1).2
  · rw [hc, List.length_append, List.length_cons]
    constructor
    · intro h1
      have h2 : chunks ((l.drop k).drop (chunkLen (l.drop k))) = [] := List.eq_nil_of_length_eq_zero (by omega)
      rcases Nat.lt_or_ge (k + chunkLen (l.drop k)) l.length with h3 | h3
      · have h4 : (l.drop k).drop (chunkLen (l.drop k)) ≠ [] := by intro e; have := congrArg List.length e; simp at this; omega
        rw [chunks_cons _ h4] at h2; cases h2
      · exact h3
    · intro h1
      rw [List.drop_eq_nil_of_le (by simp; omega), chunks_nil]; simp
/-- Two texts that begin alike: a chunk that ends within what is alike is the same in both. -/
theorem ahead_len (p a b : List UInt8) (k : Nat) (h : k + chunkLen ((p ++ a).drop k) < p.length) : chunkLen ((p ++ b).drop k) = chunkLen ((p ++ a).drop k) := by
  obtain ⟨h1, h2, h3⟩ := chunkLen_spec ((p ++ a).drop k)
  have same : ∀ m, k + m < p.length → stopB ((p ++ b).drop k) m = stopB ((p ++ a).drop k) m := by
    intro m hm
    have e1 : decide (((p ++ b).drop k).length ≤ m) = false := decide_eq_false (by simp; omega)
    have e2 : decide (((p ++ a).drop k).length ≤ m) = false := decide_eq_false (by simp; omega)
    have e3 : ∀ x : List UInt8, ((p ++ x).drop k).take m = (p.drop k).take m := by
      intro x
      rw [List.drop_append_of_le_length (by omega), List.take_append_of_le_length (by simp; omega)]
    simp only [stopB, e1, e2, e3]
  refine chunkLen_eq _ _ h1 ?_ fun m h4 h5 => ?_
  · rw [same _ h]; exact h2
  · rw [same m (by omega)]; exact h3 m h4 h5
theorem ahead_take (p a b : List UInt8) (k m : Nat) (h : k + m < p.length) : ((p ++ b).drop k).take m = ((p ++ a).drop k).take m := by
  have e3 : ∀ x : List UInt8, ((p ++ x).drop k).take m = (p.drop k).take m := by
    intro x
    rw [List.drop_append_of_le_length (by omega), List.take_append_of_le_length (by simp; omega)]
  rw [e3, e3]
theorem texts_at {s : ByteArray} {r : List (List UInt8)} {k : Nat} (h : Cutting s.data.toList r k) (hi : r.length < (texts s).length) :
    k < s.size ∧ (texts s)[r.length] = strOf ((restOf s k).take (chunkLen (restOf s k))) ∧ ((texts s).length = r.length + 1 ↔ s.size ≤ k + chunkLen (restOf s k)) := by
  have hl : (texts s).length = (chunks s.data.toList).length := by simp [texts]
  have hi2 : r.length < (chunks s.data.toList).length := by rw [← hl]; exact hi
  obtain ⟨h1, h2, h3⟩ := chunk_at h hi2
  refine ⟨by simpa using h1, ?_, ?_⟩
  · simp only [texts, List.getElem_map, h2]; rfl
  · rw [hl, h3]; simp [restOf]
/-- The step of a cutting, in the text's own words. -/
theorem Cutting.next {s : ByteArray} {r : List (List UInt8)} {k : Nat} (h : Cutting s.data.toList r k) (hk : k < s.size) :
    Cutting s.data.toList (r ++ [(restOf s k).take (chunkLen (restOf s k))]) (k + chunkLen (restOf s k)) := Cutting.step h (by simpa using hk)
/-- Why a chunk that is not the last one ends where it does. -/
theorem why_end (l : List UInt8) (h : chunkLen l < l.length) (h5 : chunkLen l ≠ 512) : W16 (l.take (chunkLen l)) % 64 = 7 := by
  obtain ⟨h1, h2, h3⟩ := chunkLen_spec l
  have h6 := chunkLen_le512 l
  have a : ¬ l.length ≤ chunkLen l := by omega
  have b : ¬ 512 ≤ chunkLen l := by omega
  simp only [stopB, decide_eq_false a, decide_eq_false b, Bool.false_or, Bool.and_eq_true, decide_eq_true_eq] at h2
  exact h2.2
theorem why_not (l : List UInt8) (n : Nat) (h1 : 32 ≤ n) (h2 : n < chunkLen l) : W16 (l.take n) % 64 ≠ 7 := by
  have h := (chunkLen_spec l).2.2 n (by omega) h2
  intro e
  simp [stopB, h1, e] at h
theorem why_short (l : List UInt8) (h : chunkLen l < l.length) : 32 ≤ chunkLen l := by
  obtain ⟨h1, h2, h3⟩ := chunkLen_spec l
  have a : ¬ l.length ≤ chunkLen l := by omega
  simp only [stopB, decide_eq_false a, Bool.false_or, Bool.or_eq_true, Bool.and_eq_true, decide_eq_true_eq] at h2
  omega
end Go.Proofs.Ytebpelfmllkpbaa

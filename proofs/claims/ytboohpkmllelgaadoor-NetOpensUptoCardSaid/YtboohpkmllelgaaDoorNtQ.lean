/-
  Messages as packets, in plain Lean: what is sealed is opened; a packet of which one byte is changed, or that is cut off, is refused; without a condition.
-/
import Derived.Test.YtboohpkmllelgaaDoorPvs
import Derived.Test.YtboohpkmllelgaaDoorFram
namespace Go.Proofs.YtboohpkmllelgaaDoor
open Go.RowKit
set_option linter.unusedVariables false

def sealM (m : Ms) : ByteArray × Int := if (putM m).2 ≠ 0 then (⟨#[]⟩, (putM m).2) else if 65536 < (putM m).1.size then (⟨#[]⟩, 2) else (frameOf (putM m).1, 0)
def wholeB (l : List UInt8) : Prop := (bodies l).length = 1 ∧ taken (bodies l) = l.length
instance (l : List UInt8) : Decidable (wholeB l) := by unfold wholeB; exact inferInstance
def bodyOf (l : List UInt8) : ByteArray := ⟨((bodies l).getD 0 []).toArray⟩
def openM (s : ByteArray) : Ms × Int := if wholeB s.data.toList then getM (bodyOf s.data.toList) else (Ms.zero, 61)
theorem wholeB_frame {l : List UInt8} (h : wholeB l) : ∃ b, l = frameL b ∧ b.length ≤ 65536 ∧ b.length = num4 l := by
  obtain ⟨h1, h2⟩ := h
  cases ho : oneL l with
  | none => rw [bodies_none l ho] at h1; simp at h1
  | some b =>
    have hb := bodies_some l b ho
    rw [hb] at h1 h2
    have h3 : bodies (l.drop (b.length + 12)) = [] := List.eq_nil_of_length_eq_zero (by simpa using h1)
    rw [h3] at h2
    obtain ⟨g1, g2, g3, g4, g5⟩ := oneL_some ho
    simp [taken] at h2
    refine ⟨b, ?_, g1, g4⟩
    rw [g5, List.take_of_length_le (by omega)]
theorem wholeB_is (b : List UInt8) (hb : b.length ≤ 65536) : wholeB (frameL b) ∧ bodyOf (frameL b) = ⟨b.toArray⟩ := by
  have h1 : oneL (frameL b) = some b := by have := oneL_frame b [] hb; rwa [List.append_nil] at this
  have h2 : bodies (frameL b) = [b] := by
    rw [bodies_some _ _ h1, List.drop_eq_nil_of_le (by rw [frameL_length]; omega)]
    rfl
  unfold wholeB bodyOf
  rw [h2]
  refine ⟨⟨rfl, ?_⟩, rfl⟩
  simp [taken, frameL_length]
theorem bytes_self (s : ByteArray) : (⟨s.data.toList.toArray⟩ : ByteArray) = s := by cases s; simp
theorem seal_ok {m : Ms} {s : ByteArray} (h : sealM m = (s, 0)) : putM m = ((putM m).1, 0) ∧ (putM m).1.size ≤ 65536 ∧ s = frameOf (putM m).1 := by
  unfold sealM at h
  split at h
  · rename_i h1; exact absurd (congrArg Prod.snd h) h1
  · rename_i h1
    have h1 : (putM m).2 = 0 := Classical.byContradiction h1
    split at h
    · exact absurd (congrArg Prod.snd h) (by simp)
    · rename_i h2
      exact ⟨by rw [← h1], by omega, (congrArg Prod.fst h).symm⟩
theorem open_frame (t : ByteArray) (h : t.size ≤ 65536) : openM (frameOf t) = getM t := by
  obtain ⟨h1, h2⟩ := wholeB_is t.data.toList (by simpa using h)
  unfold openM
  rw [frameOf_list, if_pos h1, h2, bytes_self]
/-- What is sealed is opened again. -/
theorem seal_open {m : Ms} {s : ByteArray} (h : sealM m = (s, 0)) : openM s = (m, 0) := by
  obtain ⟨h1, h2, rfl⟩ := seal_ok h
  rw [open_frame _ h2]
  exact put_got h1
theorem seal_bad {m : Ms} {e : Int} {s : ByteArray} (h : sealM m = (s, e)) (he : e ≠ 0) : s = ⟨#[]⟩ := by
  unfold sealM at h
  split at h
  · exact (congrArg Prod.fst h).symm
  · split at h
    · exact (congrArg Prod.fst h).symm
    · exact absurd (congrArg Prod.snd h).symm he
theorem seal_some {m : Ms} {s : ByteArray} (h : sealM m = (s, 0)) : 12 ≤ s.size ∧ s.size ≤ 65548 := by
  obtain ⟨h1, h2, rfl⟩ := seal_ok h
  rw [frameOf_size]; omega
theorem num4_first {a b : List UInt8} (h : a.take 4 = b.take 4) : num4 a = num4 b := by rw [← num4_take a, h, num4_take]
/-- A frame that is cut off is none. -/
theorem cut_none (b : List UInt8) (hb : b.length ≤ 65536) (k : Nat) (hk : k < b.length + 12) : ¬ wholeB ((frameL b).take k) := by
  intro h
  obtain ⟨c, h1, h2, h3⟩ := wholeB_frame h
  have hl := congrArg List.length h1
  rw [frameL_length, List.length_take, frameL_length] at hl
  have h4 : num4 ((frameL b).take k) = num4 (frameL b) := num4_first (by rw [List.take_take]; congr 1; omega)
  have h5 : num4 (frameL b) = b.length := by
    unfold frameL
    simp only [List.append_assoc]
    exact num4_le4 _ (by omega) _
  rw [h4, h5] at h3
  omega
theorem set_app_left {α : Type} (a b : List α) (i : Nat) (x : α) (h : i < a.length) : (a ++ b).set i x = a.set i x ++ b := List.set_append_left _ _ h
/-- A frame of which one byte is changed is none. -/
theorem torn_none (b : List UInt8) (hb : b.length ≤ 65536) (k : Nat) (hk : k < (frameL b).length) (x : UInt8) (hx : x ≠ 0) : ¬ wholeB ((frameL b).set k ((frameL b)[k] ^^^ x)) := by
  intro h
  obtain ⟨c, h1, h2, h3⟩ := wholeB_frame h
  have hl := congrArg List.length h1
  rw [frameL_length, List.length_set, frameL_length] at hl
  have hlen : c.length = b.length := by omega
  have hne : (frameL b)[k] ^^^ x ≠ (frameL b)[k] := by
    intro he
    have h4 : (frameL b)[k] ^^^ ((frameL b)[k] ^^^ x) = (frameL b)[k] ^^^ (frameL b)[k] := by rw [he]
    rw [← UInt8.xor_assoc, UInt8.xor_self, UInt8.zero_xor] at h4
    exact hx h4
  have hat : ∀ i (hi : i < (frameL b).length), (frameL c)[i]'(by rw [frameL_length, hlen, ← frameL_length b]; exact hi) = if k = i then (frameL b)[k] ^^^ x else (frameL b)[i] := by
    intro i hi
    have hg : (frameL c)[i]? = ((frameL b).set k ((frameL b)[k] ^^^ x))[i]? := by rw [h1]
    rw [List.getElem?_eq_getElem (by rw [frameL_length, hlen, ← frameL_length b]; exact hi), List.getElem?_eq_getElem (by simpa using hi)] at hg
    have hg := Option.some.inj hg
    rw [hg, List.getElem_set]
  rw [frameL_length] at hk
  have hcs : frameL c = le4 b.length ++ le4 (sum32 (le4 b.length)) ++ c ++ le4 (sum32 c) := by unfold frameL; rw [hlen]
  have hbs : frameL b = le4 b.length ++ le4 (sum32 (le4 b.length)) ++ b ++ le4 (sum32 b) := rfl
  have hh : (le4 b.length ++ le4 (sum32 (le4 b.length))).length = 8 := by simp [le4_length]
  generalize le4 b.length ++ le4 (sum32 (le4 b.length)) = hd at hcs hbs hh
  by_cases k8 : k < 8
  · have := hat k (by rw [frameL_length]; omega)
    rw [if_pos rfl] at this
    apply hne
    rw [← this]
    have e1 : (frameL c)[k]'(by rw [frameL_length]; omega) = hd[k]'(by omega) := by
      simp only [hcs, List.append_assoc]
      rw [List.getElem_append_left]
    have e2 : (frameL b)[k]'(by rw [frameL_length]; omega) = hd[k]'(by omega) := by
      simp only [hbs, List.append_assoc]
      rw [List.getElem_append_left]
    rw [e1, e2]
  · have hcb : ∀ j (hj : j < b.length), c[j]'(by omega) = if k = 8 + j then (frameL b)[k]'(by rw [frameL_length]; omega) ^^^ x else b[j] := by
      intro j hj
      have h4 := hat (8 + j) (by rw [frameL_length]; omega)
      have e1 : (frameL c)[8 + j]'(by rw [frameL_length]; omega) = c[j]'(by omega) := by
        simp only [hcs, List.append_assoc]
        rw [List.getElem_append_right (by omega), List.getElem_append_left (by omega)]
        congr 1; omega
      have e2 : (frameL b)[8 + j]'(by rw [frameL_length]; omega) = b[j] := by
        simp only [hbs, List.append_assoc]
        rw [List.getElem_append_right (by omega), List.getElem_append_left (by omega)]
        congr 1; omega
      rw [e1, e2] at h4
      exact h4
    have hsb : ∀ j (hj : j < 4), (le4 (sum32 c))[j]'(by rw [le4_length]; omega) = if k = 8 + b.length + j then (frameL b)[k]'(by rw [frameL_length]; omega) ^^^ x else (le4 (sum32 b))[j]'(by rw [le4_length]; omega) := by
      intro j hj
      have h4 := hat (8 + b.length + j) (by rw [frameL_length]; omega)
      have e1 : (frameL c)[8 + b.length + j]'(by rw [frameL_length]; omega) = (le4 (sum32 c))[j]'(by rw [le4_length]; omega) := by
        simp only [hcs]
        rw [List.getElem_append_right (by simp; omega)]
        congr 1; simp; omega
      have e2 : (frameL b)[8 + b.length + j]'(by rw [frameL_length]; omega) = (le4 (sum32 b))[j]'(by rw [le4_length]; omega) := by
        simp only [hbs]
        rw [List.getElem_append_right (by simp; omega)]
        congr 1; simp; omega
      rw [e1, e2] at h4
      exact h4
    by_cases kb : k < 8 + b.length
    · obtain ⟨j, rfl⟩ : ∃ j, k = 8 + j := ⟨k - 8, by omega⟩
      have hj : j < b.length := by omega
      have ebk : (frameL b)[8 + j]'(by rw [frameL_length]; omega) = b[j] := by
        simp only [hbs, List.append_assoc]
        rw [List.getElem_append_right (by omega), List.getElem_append_left (by omega)]
        congr 1; omega
      have hcset : c = b.set j (b[j] ^^^ x) := by
        apply List.ext_getElem (by simpa using hlen)
        intro i h5 h6
        have h7 := hcb i (by omega)
        rw [h7, List.getElem_set, ebk]
        by_cases hi : j = i
        · rw [if_pos (by omega), if_pos hi]
        · rw [if_neg (by omega), if_neg hi]
      have hsum : sum32 b = sum32 c := by
        have h8 : le4 (sum32 c) = le4 (sum32 b) := by
          refine List.ext_getElem (by simp [le4_length]) ?_
          intro i h5 h6
          have h7 := hsb i (by simpa [le4_length] using h5)
          rw [h7, if_neg (by omega)]
        have h9 := congrArg num4 h8
        have e1 := num4_le4 (sum32 c) (sum32_lt c) []
        have e2 := num4_le4 (sum32 b) (sum32_lt b) []
        rw [List.append_nil] at e1 e2
        rw [← e1, ← e2, h9]
      have hle := leN_set b j hj x
      rw [← hcset] at hle
      have hbc := (sum32_burst b c hlen.symm (8 * j) x.toNat (by have := x.toNat_lt; omega) (by omega) hle).1 hsum
      have h7 := hcb j hj
      rw [if_pos rfl] at h7
      apply hne
      rw [← h7, ebk]
      simp only [← hbc]
    · have hc : c = b := by
        apply List.ext_getElem hlen
        intro i h5 h6
        rw [hcb i (by omega), if_neg (by omega)]
      have hj : k - 8 - b.length < 4 := by omega
      have h7 := hsb (k - 8 - b.length) hj
      rw [if_pos (by omega)] at h7
      apply hne
      rw [← h7]
      have ebk : (frameL b)[k]'(by rw [frameL_length]; omega) = (le4 (sum32 b))[k - 8 - b.length]'(by rw [le4_length]; omega) := by
        simp only [hbs]
        rw [List.getElem_append_right (by simp; omega)]
        congr 1; simp; omega
      rw [ebk]
      simp only [hc]
end Go.Proofs.YtboohpkmllelgaaDoor

/-
  The walk of script.Line: the words of any line of less than 2^32 - 15 bytes; one new block is made.
-/
import Derived.Test.YtdlnabjledhiiaaDoorSwP
import Derived.Test.YtdlnabjledhiiaaDoorSl
import Derived.Test.YtdlnabjledhiiaaDoorShelf
import Derived.WalkSpells
import Derived.WalkLawsBesides
namespace Go.Proofs.YtdlnabjledhiiaaDoor
open Go.RowKit
set_option linter.unusedVariables false

theorem size0 {t : ByteArray} (h : t.size = 0) : t = ⟨#[]⟩ := by
  obtain ⟨⟨l⟩⟩ := t
  have : l = [] := List.eq_nil_of_length_eq_zero (by simpa [ByteArray.size] using h)
  subst this; rfl
theorem toList_nil : (⟨#[]⟩ : ByteArray).toList = [] := by rw [ByteArray.toList_eq]
theorem isEmpty_no {t : ByteArray} (h : t.size ≠ 0) : t.toList.isEmpty = false := by
  rw [ByteArray.toList_eq]
  obtain ⟨⟨l⟩⟩ := t
  cases l with
  | nil => exact absurd rfl h
  | cons x r => rfl
theorem eqNil_no {t : ByteArray} (h : t.size ≠ 0) : (t.toList == []) = false := by
  rw [ByteArray.toList_eq]
  obtain ⟨⟨l⟩⟩ := t
  cases l with
  | nil => exact absurd rfl h
  | cons x r => rfl

/-- Does a line say anything, and which words? -/
def saysB (s : ByteArray) : Bool := match s.data.toList with
  | [] => false
  | c :: _ => c != 35
def lineW (s : ByteArray) : List ByteArray := if saysB s then wordsB s else []
theorem saysB_nil : saysB ⟨#[]⟩ = false := rfl
theorem saysB_head (s : ByteArray) (h : 0 < s.size) : saysB s = (s[0] != 35) := by
  obtain ⟨⟨l⟩⟩ := s
  cases l with
  | nil => exact absurd h (Nat.lt_irrefl 0)
  | cons x r => rfl
theorem cellsOf_at (l : List ByteArray) (N i : Nat) (h : i < l.length) : (Lib.cellsOf l N)[i]? = some (.string l[i]) := by
  unfold Lib.cellsOf
  rw [List.getElem?_toArray, List.getElem?_append_left (by simpa using h)]
  simp [List.getElem?_eq_getElem h]
theorem cell_in_new (w : World) (C : Array Value) (e : TypeId) (i : Nat) : (w.alloc (.cells C e)).cell? ⟨w.heap.size, i, none⟩ = C[i]? := by
  have := World.cell?_alloc_mark w C e (0, 0) i
  exact this
theorem SlAt.ofCells (w : World) (l : List ByteArray) (N : Nat) (e : TypeId) : SlAt (w.alloc (.cells (Lib.cellsOf l N) e)) (some ⟨w.heap.size, 0, none⟩) l.length (strs l) := by
  refine ⟨by rw [strs_length], .inr ⟨w.heap.size, 0, rfl, fun i hi => ?_⟩⟩
  rw [strs_length] at hi
  rw [Nat.zero_add, cell_in_new, cellsOf_at l N i hi]
  simp [strs]

/-- What both readers of lines tell. -/
def LinePost (s : ByteArray) (w : World) (e : Ending) (w' : World) : Prop :=
  ∃ a n c b, e = .returned (.tuple #[.slice a n c, .bool b]) ∧ b = saysB s ∧ SlAt w' a n (strs (lineW s)) ∧ Below w.heap.size w w'

set_option maxHeartbeats 1000000 in
theorem line_any (s : ByteArray) (m : Int) (w : World) (hm : w.cell? ⟨1, 0, none⟩ = some (.int .i64 m)) (hs : s.size < 4294967281) :
    Calls Tryd.prog 15 #[.string s] w (LinePost s w) := by
  by_cases h0 : s.size = 0
  · obtain rfl := size0 h0
    have e0 := toList_nil
    clear h0 hs
    go_enter Tryd.func15, Tryd.ntmps15
    go_wp2_with fail
    go_ret2
    exact ⟨none, 0, 0, false, rfl, rfl, SlAt.nil _ _, Below.refl _ _⟩
  · have e1 := isEmpty_no h0
    have e2 := eqNil_no h0
    have hp : 0 < s.size := by omega
    have hpi : (0 : Int) < (s.size : Int) := by omega
    have hh := saysB_head s hp
    have hc := Lib.hid (Tryd.strings_SplitN s ⟨#[32]⟩ 6 m w hs hm (by decide) (by decide) (by decide))
    rw [splitB_words ⟨#[32]⟩ s rfl] at hc
    by_cases h35 : s[0] = 35
    · have hsay : saysB s = false := by rw [hh, h35]; rfl
      have h35' : (s[0].toNat : Int) = 35 := by rw [h35]; rfl
      have HS := Lib.hid hsay
      clear hc hh hm hs hsay h35
      go_enter Tryd.func15, Tryd.ntmps15
      go_wp2_with fail
      go_ret2
      exact ⟨none, 0, 0, false, rfl, HS.out.symm, by rw [lineW, HS.out]; exact SlAt.nil _ _, Below.refl _ _⟩
    · have hsay : saysB s = true := by rw [hh, bne_iff_ne]; exact h35
      have h35' : ((s[0].toNat : Int) == 35) = false := by
        rw [beq_eq_false_iff_ne]
        intro e
        exact h35 (UInt8.toNat_inj.1 (by show s[0].toNat = 35; omega))
      have HS := Lib.hid hsay
      clear hh hm hs hsay h35
      go_enter Tryd.func15, Tryd.ntmps15
      go_wp2_with fail
      refine hc.out.mono ?_
      rintro e w1 ⟨rfl, rfl⟩
      go_wp2_with fail
      go_ret2
      exact ⟨_, _, _, true, rfl, HS.out.symm, by rw [lineW, HS.out]; exact SlAt.ofCells _ _ _ _, (Below.refl _ _).alloc (Nat.le_refl _) _⟩
end Go.Proofs.YtdlnabjledhiiaaDoor

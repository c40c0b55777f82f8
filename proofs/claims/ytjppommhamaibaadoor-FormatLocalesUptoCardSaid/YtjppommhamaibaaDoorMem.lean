/-
  What a world holds, as this seat's contracts say it: rows of bytes of one's own; slices that came in; what stays when only new blocks are made. Without a condition.
-/
import Derived.Test.YtjppommhamaibaaDoorBase
import Derived.WalkKit
import Derived.Below
import Derived.Laws.IdiomStrings
import Derived.Laws.BytesArg
import Derived.Lib.Hide
import Derived.Lib.IndexBytes
import Derived.Deep.QuietTactic
import Derived.BigQuiet
namespace Go.Proofs.YtjppommhamaibaaDoor
open Go.RowKit

theorem cell_keep {w w' : World} (h : Below w.heap.size w w') {a : Addr} {v : Value} (hc : w.cell? a = some v) : w'.cell? a = some v :=
  (h.cell (World.block_lt_of_cell? w a hc)).trans hc

/-- A callee that leaves the world alone, inside a region that draws. -/
theorem qsame {P : Program} {f : FuncId} {args : Array Value} {w : World} {n : Nat} {v : Value}
    (h : Calls P f args (w.drewN n) fun e w' => e = .returned v ∧ w.drewN n = w') : Calls P f args (w.drewN n) fun e w'' => e = .returned v ∧ ∃ m, w'' = w.drewN m :=
  h.mono fun _ _ ⟨he, hm⟩ => ⟨he, n, hm.symm⟩
theorem below_drewN {B : Nat} {a w : World} (h : Below B a w) (n : Nat) : Below B a (w.drewN n) := ⟨h.os, h.tape, h.output, h.size, h.block⟩

/-- Block B holds the bytes l from its head on, unfrozen. -/
structure BytesAt (w : World) (B : Nat) (l : List UInt8) : Prop where
  lt : B < w.heap.size
  cell : ∀ j (hj : j < l.length), w.cell? ⟨B, j, none⟩ = some (.int .u8 (l[j].toNat : Int))
  free : ∀ j, j < l.length → w.frozen? ⟨B, j, none⟩ = false
theorem BytesAt.drewN {w : World} {B : Nat} {l : List UInt8} (h : BytesAt w B l) (n : Nat) : BytesAt (w.drewN n) B l := ⟨h.lt, h.cell, h.free⟩
theorem BytesAt.drew {w : World} {B : Nat} {l : List UInt8} (h : BytesAt w B l) : BytesAt w.drew B l := ⟨h.lt, h.cell, h.free⟩
theorem BytesAt.set {w : World} {B : Nat} {l : List UInt8} (h : BytesAt w B l) (j : Nat) (hj : j < l.length) (x : UInt8) (v : Int) (hv : v = (x.toNat : Int)) :
    BytesAt (w.setCell ⟨B, j, none⟩ (.int .u8 v)) B (l.set j x) := by
  subst hv
  refine ⟨by simpa using h.lt, fun i hi => ?_, fun i hi => ?_⟩
  · have hi' : i < l.length := by simpa using hi
    by_cases he : i = j
    · subst he
      rw [World.cell?_setCell_same w _ _ (h.cell i hi')]
      simp
    · rw [World.cell?_setCell_other w _ _ _ (fun e => he (congrArg Addr.off e).symm), h.cell i hi']
      simp [Ne.symm he]
  · rw [World.frozen?_setCell]
    exact h.free i (by simpa using hi)

theorem bytesRow_at (s : ByteArray) (c j : Nat) (hj : j < s.data.toList.length) : (bytesRow s c)[j]? = some (.int .u8 (s.data.toList[j].toNat : Int)) := by
  unfold bytesRow
  have hj' : j < s.data.size := by simpa using hj
  rw [Array.getElem?_append_left (by simpa using hj')]
  simp [Array.getElem?_eq_getElem hj']
/-- '[]byte(s)': a new block of one's own. -/
theorem conv_bytes {P : Program} (w : World) (src dst e : TypeId) (s : ByteArray) (hs : P.underlying src = some .string) (hd : P.underlying dst = some (.slice e)) (he : P.underlying e = some (.int .u8)) :
    ∃ cap w1, (convert src dst (.string s)).run P w = .ok (.slice (some ⟨w.heap.size, 0, none⟩) s.size cap) w1 ∧ Below w.heap.size w w1 ∧ BytesAt w1 w.heap.size s.data.toList := by
  refine ⟨_, _, run_bytes_of_string w src dst e s hs hd he, (Below.refl _ _).drew.alloc (Nat.le_refl _) _, ?_, ?_, ?_⟩
  · simp
  · intro j hj
    have h1 := World.cell?_alloc_mark w.drew (bytesRow s (grownCap w s.size 0 e)) e ((bytesRow s (grownCap w s.size 0 e)).size, (bytesRow s (grownCap w s.size 0 e)).size + 1) j
    rw [World.size_drew] at h1
    rw [h1, bytesRow_at s _ j hj]
  · intro j hj
    have hsz : j < (bytesRow s (grownCap w s.size 0 e)).size := by
      unfold bytesRow
      have hj' : j < s.data.size := by simpa using hj
      rw [Array.size_append, Array.size_map]; omega
    generalize bytesRow s (grownCap w s.size 0 e) = C at *
    have hb : (w.drew.alloc (.cells C e (C.size, C.size + 1))).heap[w.heap.size]? = some (.cells C e (C.size, C.size + 1)) := by
      show (w.heap.push _)[w.heap.size]? = _
      simp
    unfold World.frozen?
    rw [hb]
    simp; omega
/-- 'string(b)' of a row of one's own. -/
theorem conv_back {P : Program} (w : World) (src dst e : TypeId) (B cap n : Nat) (l : List UInt8) (hs : P.underlying src = some (.slice e)) (he : P.underlying e = some (.int .u8)) (hd : P.underlying dst = some .string)
    (h : BytesAt w B l) (hn : n = l.length) : (convert src dst (.slice (some ⟨B, 0, none⟩) n cap)).run P w = .ok (.string ⟨l.toArray⟩) w := by
  subst hn
  refine run_convert_bytes_back w src dst e ⟨B, 0, none⟩ cap l hs he hd fun j hj => ?_
  have h1 := h.cell j hj
  rw [← h1]
  unfold Addr.add
  split
  · rename_i h0; subst h0; rfl
  · simp

/-- A slice of strings that came in: nil; or it leads to a row of 'cap' cells, the strings 'zs' (the first 'len' are its elements). -/
def IsStrs (w : World) (a : Option Addr) (len cap : Nat) (zs : List ByteArray) : Prop :=
  (a = none ∧ len = 0 ∧ cap = 0 ∧ zs = []) ∨
  ∃ x, a = some x ∧ len ≤ cap ∧ cap ≤ maxLen ∧ zs.length = cap ∧ (∀ i, i < zs.length → w.cell? (x.add i) = some (.string (zs.getD i ByteArray.empty))) ∧ ∀ s ∈ zs, s.size ≤ maxLen
/-- A text of bytes. -/
def strOf (l : List UInt8) : ByteArray := ⟨l.toArray⟩
theorem strOf_size (l : List UInt8) : (strOf l).size = l.length := by simp [strOf, ByteArray.size]
theorem strOf_list (l : List UInt8) : (strOf l).data.toList = l := rfl
theorem strOf_self (s : ByteArray) : strOf s.data.toList = s := rfl
theorem strOf_inj {a b : List UInt8} (h : strOf a = strOf b) : a = b := by have := congrArg (fun s : ByteArray => s.data.toList) h; exact this
theorem extract_strOf (s : ByteArray) (a b : Nat) : s.extract a b = strOf ((s.data.toList.drop a).take (b - a)) := by
  have h : (s.extract a b).data.toList = (s.data.toList.drop a).take (b - a) := Lib.extract_data s a b
  rw [← h]; rfl
theorem toList_ne {a b : ByteArray} (h : a ≠ b) : (a.toList == b.toList) = false := by
  rw [beq_eq_false_iff_ne]
  intro e
  apply h
  rw [ByteArray.toList_eq, ByteArray.toList_eq] at e
  obtain ⟨⟨a⟩⟩ := a; obtain ⟨⟨b⟩⟩ := b
  simp at e; rw [e]

theorem below_then {B : Nat} {w w1 w2 : World} (h : Below B w w1) (k : Below w1.heap.size w1 w2) (hB : B ≤ w1.heap.size) : Below B w w2 := h.trans (k.mono hB)
end Go.Proofs.YtjppommhamaibaaDoor

/-
  Deltas in plain Lean: which op may be, what a delta weighs, what it makes of a text; how a slice of ops lies in memory. Without a condition.
-/
import Derived.Test.YtdlnabjledhiiaaDoorSrc
import Derived.Test.YtdlnabjledhiiaaDoorSwLine
namespace Go.Proofs.YtdlnabjledhiiaaDoor
open Go.RowKit
set_option linter.unusedVariables false

/-- An op: from, length, text. -/
structure DOp where
  f : Int
  l : Int
  t : ByteArray
def DOp.val (o : DOp) : Value := .agg #[.int .i64 o.f, .int .i64 o.l, .string o.t]
def DOp.wf (o : DOp) : Prop := (-9223372036854775808 ≤ o.f ∧ o.f ≤ 9223372036854775807) ∧ (-9223372036854775808 ≤ o.l ∧ o.l ≤ 9223372036854775807) ∧ o.t.size ≤ maxLen
/-- May the op be? -/
def DOp.ok (o : DOp) : Bool := if o.t.size = 0 then decide (1 ≤ o.l ∧ o.l ≤ 131072 ∧ 0 ≤ o.f ∧ o.f ≤ 131072) else decide (o.l = 0 ∧ o.f = 0 ∧ o.t.size ≤ 131072)
def rightB (d : List DOp) : Bool := decide (d.length ≤ 2000) && d.all DOp.ok
def weigh (d : List DOp) : Nat := (d.map fun o => 8 + o.t.size).sum
/-- What an op lays behind. -/
def DOp.piece (old : List UInt8) (o : DOp) : List UInt8 := if o.t.size = 0 then (old.drop o.f.toNat).take o.l.toNat else o.t.data.toList
def DOp.fits (n : Nat) (o : DOp) : Bool := decide (o.t.size = 0 → o.f + o.l ≤ n)
/-- A delta applied: the text, or why not. -/
def applyD (old : List UInt8) (most : Nat) : List UInt8 → List DOp → List UInt8 × Int
  | acc, [] => (acc, 0)
  | acc, o :: r => if o.fits old.length = false then ([], 70) else if most < acc.length + (o.piece old).length then ([], 2) else applyD old most (acc ++ o.piece old) r
def clampM (m : Int) : Nat := min m.toNat 1048576
def applyAll (old : List UInt8) (d : List DOp) (m : Int) : List UInt8 × Int := if rightB d = true then applyD old (clampM m) [] d else ([], 70)

/-- Through the slice (a, n) the ops d are read. -/
def OpsSl (w : World) (a : Option Addr) (n : Nat) (d : List DOp) : Prop :=
  n = d.length ∧ (d = [] ∨ ∃ b off, a = some ⟨b, off, none⟩ ∧ ∀ i (h : i < d.length), w.cell? ⟨b, off + i * 3, none⟩ = some (.int .i64 d[i].f) ∧ w.cell? ⟨b, off + i * 3 + 1, none⟩ = some (.int .i64 d[i].l) ∧ w.cell? ⟨b, off + i * 3 + 2, none⟩ = some (.string d[i].t))
theorem OpsSl.keep {w w' : World} {a : Option Addr} {n : Nat} {d : List DOp} (h : OpsSl w a n d) (hb : Below w.heap.size w w') : OpsSl w' a n d := by
  refine ⟨h.1, ?_⟩
  rcases h.2 with h0 | ⟨b, off, ha, hc⟩
  · exact .inl h0
  · exact .inr ⟨b, off, ha, fun i hi => ⟨cell_keep hb (hc i hi).1, cell_keep hb (hc i hi).2.1, cell_keep hb (hc i hi).2.2⟩⟩
theorem OpsSl.drewN {w : World} {a : Option Addr} {n : Nat} {d : List DOp} (h : OpsSl w a n d) (m : Nat) : OpsSl (w.drewN m) a n d := h
theorem OpsSl.take {w : World} {a : Option Addr} {n m : Nat} {d : List DOp} (h : OpsSl w a n d) (hm : m ≤ n) : OpsSl w a m (d.take m) := by
  refine ⟨by rw [List.length_take]; have := h.1; omega, ?_⟩
  rcases h.2 with rfl | ⟨b, off, ha, hc⟩
  · exact .inl (by simp)
  · exact .inr ⟨b, off, ha, fun i hi => by
      have hi' : i < d.length := by rw [List.length_take] at hi; omega
      rw [List.getElem_take]; exact hc i hi'⟩
theorem OpsSl.at {w : World} {a : Option Addr} {n : Nat} {d : List DOp} (h : OpsSl w a n d) (h0 : 0 < n) :
    n = d.length ∧ ∃ b off, a = some ⟨b, off, none⟩ ∧ ∀ i (h : i < d.length), w.cell? ⟨b, off + i * 3, none⟩ = some (.int .i64 d[i].f) ∧ w.cell? ⟨b, off + i * 3 + 1, none⟩ = some (.int .i64 d[i].l) ∧ w.cell? ⟨b, off + i * 3 + 2, none⟩ = some (.string d[i].t) := by
  refine ⟨h.1, ?_⟩
  rcases h.2 with rfl | h
  · have := h.1; simp at this; omega
  · exact h

theorem rightB_all {d : List DOp} (h : rightB d = true) : ∀ o ∈ d, o.ok = true := by
  unfold rightB at h
  simp only [Bool.and_eq_true, List.all_eq_true] at h
  exact h.2
theorem ok_empty {o : DOp} (h : o.ok = true) (h0 : o.t.size = 0) : 1 ≤ o.l ∧ o.l ≤ 131072 ∧ 0 ≤ o.f ∧ o.f ≤ 131072 := by
  unfold DOp.ok at h; rw [if_pos h0] at h; exact of_decide_eq_true h
theorem ok_text {o : DOp} (h : o.ok = true) (h0 : o.t.size ≠ 0) : o.l = 0 ∧ o.f = 0 ∧ o.t.size ≤ 131072 := by
  unfold DOp.ok at h; rw [if_neg h0] at h; exact of_decide_eq_true h
theorem weigh_snoc (d : List DOp) (k : Nat) (h : k < d.length) : weigh (d.take (k + 1)) = weigh (d.take k) + (8 + d[k].t.size) := by
  unfold weigh
  rw [List.take_succ_eq_append_getElem h, List.map_append, List.sum_append]
  rfl
theorem weigh_le {d : List DOp} (h : ∀ o ∈ d, o.t.size ≤ 131072) : weigh d ≤ d.length * 131080 := by
  induction d with
  | nil => exact Nat.le_refl _
  | cons o r ih =>
    have h1 := ih fun x hx => h x (List.mem_cons_of_mem _ hx)
    have h2 := h o (List.mem_cons_self ..)
    have : weigh (o :: r) = 8 + o.t.size + weigh r := by simp [weigh]
    rw [this, List.length_cons]; omega
theorem ok_size {o : DOp} (h : o.ok = true) : o.t.size ≤ 131072 := by
  by_cases h0 : o.t.size = 0
  · omega
  · exact (ok_text h h0).2.2
end Go.Proofs.YtdlnabjledhiiaaDoor

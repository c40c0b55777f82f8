/-
  A block of four cells that is written whole; without a condition.
-/
import Derived.Test.YtjppommhamaibaaSl
namespace Go.Proofs.Ytjppommhamaibaa
open Go.RowKit
set_option linter.unusedVariables false

/-- Block b holds four cells that may be written. -/
def Four (w : World) (b : Nat) (t : TypeId) (v0 v1 v2 v3 : Value) : Prop := w.heap[b]? = some (.cells #[v0, v1, v2, v3] t (0, 0))
theorem Four.new (w : World) (t : TypeId) (v0 v1 v2 v3 : Value) : Four (w.alloc (.cells #[v0, v1, v2, v3] t)) w.heap.size t v0 v1 v2 v3 := heap_alloc_new w _
theorem Four.kept {w w' : World} {b : Nat} {t : TypeId} {v0 v1 v2 v3 : Value} (h : Four w b t v0 v1 v2 v3) {row : Option Nat} (hg : w.grownBy w' row) (hr : some b ≠ row) : Four w' b t v0 v1 v2 v3 := (hg.block b (lt_of_block h) hr).trans h
theorem Four.drewN {w : World} {b : Nat} {t : TypeId} {v0 v1 v2 v3 : Value} (h : Four w b t v0 v1 v2 v3) (n : Nat) : Four (w.drewN n) b t v0 v1 v2 v3 := h
theorem Four.alloc {w : World} {b : Nat} {t : TypeId} {v0 v1 v2 v3 : Value} (h : Four w b t v0 v1 v2 v3) (o : Obj) : Four (w.alloc o) b t v0 v1 v2 v3 := h.kept (World.grownBy_alloc w o none) (by simp)
theorem Four.c0 {w : World} {b : Nat} {t : TypeId} {v0 v1 v2 v3 : Value} (h : Four w b t v0 v1 v2 v3) : w.cell? ⟨b, 0, none⟩ = some v0 := by unfold World.cell?; rw [h]; rfl
theorem Four.c1 {w : World} {b : Nat} {t : TypeId} {v0 v1 v2 v3 : Value} (h : Four w b t v0 v1 v2 v3) : w.cell? ⟨b, 1, none⟩ = some v1 := by unfold World.cell?; rw [h]; rfl
theorem Four.c2 {w : World} {b : Nat} {t : TypeId} {v0 v1 v2 v3 : Value} (h : Four w b t v0 v1 v2 v3) : w.cell? ⟨b, 2, none⟩ = some v2 := by unfold World.cell?; rw [h]; rfl
theorem Four.c3 {w : World} {b : Nat} {t : TypeId} {v0 v1 v2 v3 : Value} (h : Four w b t v0 v1 v2 v3) : w.cell? ⟨b, 3, none⟩ = some v3 := by unfold World.cell?; rw [h]; rfl
theorem Four.free {w : World} {b : Nat} {t : TypeId} {v0 v1 v2 v3 : Value} (h : Four w b t v0 v1 v2 v3) (j : Nat) : w.frozen? ⟨b, j, none⟩ = false := by unfold World.frozen?; rw [h]; simp
theorem Four.set3 {w : World} {b : Nat} {t : TypeId} {v0 v1 v2 v3 : Value} (h : Four w b t v0 v1 v2 v3) (u : Value) : Four (w.setCell ⟨b, 3, none⟩ u) b t v0 v1 v2 u := by
  have h' : w.heap[b]? = _ := h
  show (w.setCell _ u).heap[b]? = _
  simp [World.setCell, Array.getElem?_modify, h']
theorem Four.set0 {w : World} {b : Nat} {t : TypeId} {v0 v1 v2 v3 : Value} (h : Four w b t v0 v1 v2 v3) (u : Value) : Four (w.setCell ⟨b, 0, none⟩ u) b t u v1 v2 v3 := by
  have h' : w.heap[b]? = _ := h
  show (w.setCell _ u).heap[b]? = _
  simp [World.setCell, Array.getElem?_modify, h']
theorem Four.set1 {w : World} {b : Nat} {t : TypeId} {v0 v1 v2 v3 : Value} (h : Four w b t v0 v1 v2 v3) (u : Value) : Four (w.setCell ⟨b, 1, none⟩ u) b t v0 u v2 v3 := by
  have h' : w.heap[b]? = _ := h
  show (w.setCell _ u).heap[b]? = _
  simp [World.setCell, Array.getElem?_modify, h']
theorem Four.set2 {w : World} {b : Nat} {t : TypeId} {v0 v1 v2 v3 : Value} (h : Four w b t v0 v1 v2 v3) (u : Value) : Four (w.setCell ⟨b, 2, none⟩ u) b t v0 v1 u v3 := by
  have h' : w.heap[b]? = _ := h
  show (w.setCell _ u).heap[b]? = _
  simp [World.setCell, Array.getElem?_modify, h']
theorem Four.all {w : World} {b : Nat} {t : TypeId} {v0 v1 v2 v3 : Value} (h : Four w b t v0 v1 v2 v3) (u0 u1 u2 u3 : Value) :
    Four ((((w.setCell ⟨b, 0, none⟩ u0).setCell ⟨b, 1, none⟩ u1).setCell ⟨b, 2, none⟩ u2).setCell ⟨b, 3, none⟩ u3) b t u0 u1 u2 u3 := (((h.set0 u0).set1 u1).set2 u2).set3 u3
theorem grown_four (w : World) (b : Nat) (u0 u1 u2 u3 : Value) : w.grownBy ((((w.setCell ⟨b, 0, none⟩ u0).setCell ⟨b, 1, none⟩ u1).setCell ⟨b, 2, none⟩ u2).setCell ⟨b, 3, none⟩ u3) (some b) :=
  grown_trans (grown_trans (grown_trans (grown_setCell w b 0 u0) (grown_setCell _ b 1 u1)) (grown_setCell _ b 2 u2)) (grown_setCell _ b 3 u3)
end Go.Proofs.Ytjppommhamaibaa

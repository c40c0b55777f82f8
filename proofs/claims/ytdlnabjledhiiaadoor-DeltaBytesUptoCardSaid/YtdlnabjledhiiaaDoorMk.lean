/-
  A list value in the making: one value more is appended to its row, by whatever operation.
-/
import Derived.Test.YtdlnabjledhiiaaDoorDbBytes
namespace Go.Proofs.YtdlnabjledhiiaaDoor
open Go.RowKit
set_option linter.unusedVariables false

/-- Behind the append, ahead of the store. -/
structure Made (b4 : Nat) (acc : List V) (x : V) (va : Option Addr) (vc : Nat) (a3 : Option Addr) (c3 : Nat) (cells : List Value) (w : World) : Prop where
  box : Four w b4 42 (.int .i64 3) (.int .i64 0) (.string ⟨#[]⟩) (.slice va acc.length vc)
  own : w.ownsRow (b4 + 1) 42 4 (.slice a3 (acc.length + 1) c3) (acc.length + 1) cells
  row : RowOf w (InRow (b4 + 1) (.slice a3 (acc.length + 1) c3) w) (acc ++ [x]) cells
theorem Made.under {b4 : Nat} {acc : List V} {x : V} {va a3 : Option Addr} {vc c3 : Nat} {cells : List Value} {w w' : World} (h : Made b4 acc x va vc a3 c3 cells w) (hb : Below w.heap.size w w') : Made b4 acc x va vc a3 c3 cells w' := by
  have hlt := lt_of_block h.box
  refine ⟨(hb.block _ hlt).trans h.box, h.own.kept (grown_of_below hb none) (by cases hv : (Value.slice a3 (acc.length + 1) c3).ownBlock <;> simp), ?_⟩
  exact h.row.move (fun b hb2 => ⟨hb2.1, Nat.lt_of_lt_of_le hb2.2.1 hb.size, hb2.2.2⟩) (fun b hb2 => hb.block b hb2.2.1)
theorem Made.store {b4 : Nat} {acc : List V} {x : V} {va a3 : Option Addr} {vc c3 : Nat} {cells : List Value} {w : World} (h : Made b4 acc x va vc a3 c3 cells w) :
    Making b4 (acc ++ [x]) a3 c3 cells (w.setCell ⟨b4, 3, none⟩ (.slice a3 (acc.length + 1) c3)) := by
  have hlen : (acc ++ [x]).length = acc.length + 1 := by simp
  have hg4 := grown_setCell w b4 3 (.slice a3 (acc.length + 1) c3)
  obtain ⟨h5, h6⟩ := row_kept h.own h.row hg4 (by omega)
  refine ⟨?_, ?_, ?_⟩
  · rw [hlen]; exact h.box.set3 _
  · rw [hlen]; exact h5
  · rw [hlen]; exact h6

theorem making_append {b4 : Nat} {acc : List V} {va : Option Addr} {vc : Nat} {cells : List Value} {w : World} (h : Making b4 acc va vc cells w) (x : V) (u0 u1 u2 u3 : Value) (g hi : Nat) (T t ty : TypeId)
    (ht : Tryd.prog.underlying t = some (.slice 42)) (hg : w.heap[g]? = some (.cells #[u0, u1, u2, u3] T (0, 0))) (hx : V.At w (fun b => hi ≤ b ∧ b < w.heap.size) x [u0, u1, u2, u3])
    (hb : b4 < hi) (hi2 : hi ≤ w.heap.size) (hvl : ∀ k, (Value.slice va acc.length vc).ownBlock = some k → k < hi) (hn : acc.length ≤ 1000000) :
    ∃ a3 c3 cells' w', (Builtin.append_ #[t, t] ty #[.slice va acc.length vc, .slice (some ⟨g, 0, none⟩) 1 1]).run Tryd.prog w = .ok (.slice a3 (acc.length + 1) c3) w' ∧ w.grownBy w' (Value.slice va acc.length vc).ownBlock ∧ Made b4 acc x va vc a3 c3 cells' w' := by
  obtain ⟨i0, hi0, hz0, hz1, hz2⟩ := infoV
  have hnews : ∀ j y, [u0, u1, u2, u3][j]? = some y → w.cell? ((⟨g, 0, none⟩ : Addr).add j) = some y := by
    intro j y hj
    have := (Lib.cell_of_heap hg j)
    rw [show (⟨g, 0, none⟩ : Addr).add j = ⟨g, j, none⟩ by unfold Addr.add; split <;> simp_all]
    rw [this]
    simpa using hj
  have h1 := hx.four.2
  have hlt := lt_of_block h.box
  obtain ⟨v', w', hr, h2, h3, h4⟩ := run_append_own (P := Tryd.prog) w (b4 + 1) t ty 42 i0 (.agg #[.int .i64 0, .int .i64 0, .string ⟨#[]⟩, .slice none 0 0]) 4 56 ht hi0 hz0 hz1 hz2 rfl (by decide) _ acc.length cells h.own ⟨g, 0, none⟩ 1 1 [u0, u1, u2, u3] rfl hnews h1 (by unfold maxLen; omega) (by omega) (by omega)
  have hob := append_block (P := Tryd.prog) w (b4 + 1) t ty 42 i0 (.agg #[.int .i64 0, .int .i64 0, .string ⟨#[]⟩, .slice none 0 0]) 4 56 ht hi0 hz0 hz1 hz2 _ acc.length cells h.own ⟨g, 0, none⟩ 1 1 [u0, u1, u2, u3] rfl hnews h1 (by decide) (by unfold maxLen; omega) (by omega) hr
  have hrow : RowOf w' (InRow (b4 + 1) v' w') (acc ++ [x]) (cells ++ [u0, u1, u2, u3]) := by
    have hne : ∀ b, b < w.heap.size → some b ≠ (Value.slice va acc.length vc).ownBlock → some b ≠ v'.ownBlock := by
      intro b hb1 hb2 e
      rcases hob with ho | ho
      · exact hb2 (e.trans ho)
      · rw [ho] at e; cases e; omega
    refine .snoc (h.row.move (fun b hb => ⟨hb.1, Nat.lt_of_lt_of_le hb.2.1 h3.size, hne b hb.2.1 hb.2.2⟩) fun b hb => h3.block b hb.2.1 hb.2.2) ?_
    have hv : ∀ b, hi ≤ b → some b ≠ (Value.slice va acc.length vc).ownBlock := fun b hb e => by have := hvl b e.symm; omega
    exact V.At.move (fun b hb2 => ⟨by omega, Nat.lt_of_lt_of_le hb2.2 h3.size, hne b hb2.2 (hv b hb2.1)⟩) (fun b hb2 => h3.block b hb2.2 (hv b hb2.1)) _ _ hx
  have hlen : (acc ++ [x]).length = acc.length + 1 := by simp
  rw [← hlen] at h2
  obtain ⟨a3, c3, rfl, -⟩ := own_vals h2 hrow
  rw [hlen] at h2 hrow
  rw [hlen] at hr
  refine ⟨a3, c3, _, w', hr, h3, h.box.kept h3 (fun e => ?_), h2, hrow⟩
  have := (h.own.lt _ e.symm).1
  omega
end Go.Proofs.YtdlnabjledhiiaaDoor

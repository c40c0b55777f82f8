/-
  Values (api.Val) in memory: four cells, the last one the slice of the values within; without a condition.
-/
import Derived.Test.YtdlnabjledhiiaaDoorCvRd
namespace Go.Proofs.YtdlnabjledhiiaaDoor
open Go.RowKit
set_option linter.unusedVariables false

/-- A value: its kind, its number, its text, its list. -/
inductive V where
  | mk (kind n : Int) (s : ByteArray) (l : List V)

mutual
/-- The cells cs hold the value x; all blocks that they lead to are in S. -/
def V.At (w : World) (S : Nat → Prop) : V → List Value → Prop
  | .mk k n s l, cs => ∃ (a : Option Addr) (c : Nat), cs = [.int .i64 k, .int .i64 n, .string s, .slice a l.length c] ∧ l.length ≤ c ∧ (a = none → c = 0) ∧ VAll w S a 0 l
/-- From the place i of the row at a on, the values l lie. -/
def VAll (w : World) (S : Nat → Prop) (a : Option Addr) : Nat → List V → Prop
  | _, [] => True
  | i, x :: r => (∃ (b o : Nat) (cs : List Value), a = some ⟨b, o, none⟩ ∧ S b ∧ V.At w S x cs ∧ ∀ j u, cs[j]? = some u → w.cell? ⟨b, o + i * 4 + j, none⟩ = some u) ∧ VAll w S a (i + 1) r
end

mutual
theorem V.At.move {w w' : World} {S T : Nat → Prop} (hT : ∀ b, S b → T b) (hk : ∀ b, S b → w'.heap[b]? = w.heap[b]?) : ∀ (x : V) (cs : List Value), V.At w S x cs → V.At w' T x cs
  | .mk k n s l, cs, h => by
    simp only [V.At] at h ⊢
    obtain ⟨a, c, h1, h2, h3, h4⟩ := h
    exact ⟨a, c, h1, h2, h3, VAll.move hT hk a 0 l h4⟩
theorem VAll.move {w w' : World} {S T : Nat → Prop} (hT : ∀ b, S b → T b) (hk : ∀ b, S b → w'.heap[b]? = w.heap[b]?) (a : Option Addr) : ∀ (i : Nat) (l : List V), VAll w S a i l → VAll w' T a i l
  | _, [], _ => by simp only [VAll]
  | i, x :: r, h => by
    simp only [VAll] at h ⊢
    obtain ⟨⟨b, o, cs, h1, h2, h3, h4⟩, h5⟩ := h
    exact ⟨⟨b, o, cs, h1, hT b h2, V.At.move hT hk x cs h3, fun j u hj => (World.cell?_of_block (hk b h2)).trans (h4 j u hj)⟩, VAll.move hT hk a (i + 1) r h5⟩
end

theorem V.At.four {w : World} {S : Nat → Prop} : ∀ {x : V} {cs : List Value}, V.At w S x cs → cs.length = 4 ∧ ∀ u ∈ cs, u.oneCell' = true
  | .mk k n s l, cs, h => by
    simp only [V.At] at h
    obtain ⟨a, c, rfl, _⟩ := h
    refine ⟨rfl, fun u hu => ?_⟩
    simp at hu
    rcases hu with rfl | rfl | rfl | rfl <;> rfl

/-- The cells of a row of values. -/
inductive RowOf (w : World) (S : Nat → Prop) : List V → List Value → Prop
  | nil : RowOf w S [] []
  | snoc {l : List V} {cells : List Value} {x : V} {cs : List Value} : RowOf w S l cells → V.At w S x cs → RowOf w S (l ++ [x]) (cells ++ cs)
theorem RowOf.length {w : World} {S : Nat → Prop} {l : List V} {cells : List Value} (h : RowOf w S l cells) : cells.length = l.length * 4 := by
  induction h with
  | nil => rfl
  | snoc h1 h2 ih => rw [List.length_append, List.length_append, ih, h2.four.1]; simp; omega
theorem RowOf.one {w : World} {S : Nat → Prop} {l : List V} {cells : List Value} (h : RowOf w S l cells) : ∀ u ∈ cells, u.oneCell' = true := by
  induction h with
  | nil => intro u hu; cases hu
  | snoc h1 h2 ih =>
    intro u hu
    rcases List.mem_append.1 hu with h | h
    · exact ih u h
    · exact h2.four.2 u h
theorem RowOf.move {w w' : World} {S T : Nat → Prop} (hT : ∀ b, S b → T b) (hk : ∀ b, S b → w'.heap[b]? = w.heap[b]?) {l : List V} {cells : List Value} (h : RowOf w S l cells) : RowOf w' T l cells := by
  induction h with
  | nil => exact .nil
  | snoc h1 h2 ih => exact .snoc ih (V.At.move hT hk _ _ h2)
theorem VAll.snoc {w : World} {S : Nat → Prop} (a : Option Addr) (x : V) : ∀ (i : Nat) (l : List V), VAll w S a i l →
    (∃ (b o : Nat) (cs : List Value), a = some ⟨b, o, none⟩ ∧ S b ∧ V.At w S x cs ∧ ∀ j u, cs[j]? = some u → w.cell? ⟨b, o + (i + l.length) * 4 + j, none⟩ = some u) → VAll w S a i (l ++ [x])
  | i, [], h, hx => by
    simp only [List.nil_append, VAll]
    simp only [List.length_nil, Nat.add_zero] at hx
    exact ⟨hx, trivial⟩
  | i, y :: r, h, hx => by
    simp only [List.cons_append, VAll] at h ⊢
    refine ⟨h.1, VAll.snoc a x (i + 1) r h.2 ?_⟩
    have e : i + (y :: r).length = i + 1 + r.length := by simp; omega
    rw [e] at hx
    exact hx
/-- A row that is read at a block of S: its values lie there. -/
theorem RowOf.all {w : World} {S : Nat → Prop} {b : Nat} (hb : S b) {l : List V} {cells : List Value} (h : RowOf w S l cells) (hc : ∀ j u, cells[j]? = some u → w.cell? ⟨b, j, none⟩ = some u) : VAll w S (some ⟨b, 0, none⟩) 0 l := by
  induction h with
  | nil => simp only [VAll]
  | snoc h1 h2 ih =>
    rename_i l cells x cs
    refine VAll.snoc _ x 0 l (ih fun j u hj => hc j u (by rw [List.getElem?_append_left (List.getElem?_eq_some_iff.1 hj).1]; exact hj)) ⟨b, 0, cs, rfl, hb, h2, fun j u hj => ?_⟩
    have hl := h1.length
    rw [show 0 + (0 + l.length) * 4 + j = cells.length + j by omega]
    exact hc _ u (by rw [List.getElem?_append_right (Nat.le_add_right _ _), Nat.add_sub_cancel_left]; exact hj)
end Go.Proofs.YtdlnabjledhiiaaDoor

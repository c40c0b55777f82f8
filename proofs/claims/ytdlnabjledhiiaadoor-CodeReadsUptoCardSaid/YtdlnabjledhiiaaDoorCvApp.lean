/-
  Rows of values of one's own, and append of one value onto them; without a condition but for the sizes.
-/
import Derived.Test.YtdlnabjledhiiaaDoorCv
import Derived.Test.YtdlnabjledhiiaaDoorSl
import Derived.Maps.AppendAt
import Derived.KernelRfl
import Derived.Test.YtdlnabjledhiiaaDoorRows
namespace Go.Proofs.YtdlnabjledhiiaaDoor
open Go.RowKit
set_option linter.unusedVariables false

theorem infoVal : (Tryd.prog.info? 42).map (fun i => (i.zero, i.size, i.bytes)) = some (some (.agg #[.int .i64 0, .int .i64 0, .string ⟨#[]⟩, .slice none 0 0]), 4, 56) := by kernel_rfl
theorem underV : Tryd.prog.underlying 40 = some (.slice 42) := by kernel_rfl
theorem infoV : ∃ i, Tryd.prog.info? 42 = some i ∧ i.zero = some (.agg #[.int .i64 0, .int .i64 0, .string ⟨#[]⟩, .slice none 0 0]) ∧ i.size = 4 ∧ i.bytes = 56 := by
  have h := infoVal
  cases hi : Tryd.prog.info? 42 with
  | none => rw [hi] at h; cases h
  | some i =>
    rw [hi] at h
    simp only [Option.map_some, Option.some.injEq, Prod.mk.injEq] at h
    exact ⟨i, rfl, h.1, h.2.1, h.2.2⟩

/-- append(v, x) of one value, its four cells laid in a new block by the walk ahead of it. -/
theorem wpList_app4 {P : Program} (w : World) {ops : Array Oper} {rest : List Oper} {o : Oper} {a : Act} {Q : Exit → Act → World → Prop} (hgd : o.guard = none) (s x : Operand) (t : TypeId)
    (ho : o.op = .call { callee := .builtin .append, args := #[s, x], argTypes := #[t, t] })
    (base : Nat) (e : TypeId) (i : TypeInfo) (z : Value) (bytes : Nat) (ht : P.underlying t = some (.slice e)) (hi : P.info? e = some i) (hz : i.zero = some z)
    (hsize : i.size = 4) (hby : i.bytes = bytes) (hzs : z.cells.size = 4)
    (v : Value) (n : Nat) (xs : List Value) (hown : w.ownsRow base e 4 v n xs) (hs : a.eval s = v)
    (u0 u1 u2 u3 : Value) (T : TypeId) (nb : Nat) (hnb : nb = w.heap.size) (hx : a.eval x = .slice (some ⟨nb, 0, none⟩) 1 1) (h1 : ∀ u ∈ [u0, u1, u2, u3], u.oneCell' = true)
    (h63 : n + 1 ≤ maxLen) (hbytes : (n + 1) * bytes ≤ 140737488355328) (hbase : base ≤ w.heap.size)
    (h : ∀ v' w', w'.ownsRow base e 4 v' (n + 1) (xs ++ [u0, u1, u2, u3]) → w.grownBy w' v.ownBlock → w.heap.size < w'.heap.size → (v'.ownBlock = v.ownBlock ∨ v'.ownBlock = some (w.heap.size + 1)) → wpList P ops Q rest (a.put o.dst v') w') :
    wpList P ops Q (o :: rest) a (w.alloc (.cells #[u0, u1, u2, u3] T)) := by
  subst hnb
  refine wpList_plain hgd fun _ hK => ?_
  have hnews : ∀ j y, [u0, u1, u2, u3][j]? = some y → (w.alloc (.cells #[u0, u1, u2, u3] T)).cell? ((⟨w.heap.size, 0, none⟩ : Addr).add j) = some y := by
    intro j y hj
    have hb : (w.alloc (.cells #[u0, u1, u2, u3] T)).heap[w.heap.size]? = some (.cells #[u0, u1, u2, u3] T (0, 0)) := heap_alloc_new w _
    have e : (⟨w.heap.size, 0, none⟩ : Addr).add j = ⟨w.heap.size, j, none⟩ := by unfold Addr.add; split <;> simp_all
    rw [e]
    unfold World.cell?
    rw [hb]
    match j, hj with
    | 0, hj => exact hj
    | 1, hj => exact hj
    | 2, hj => exact hj
    | 3, hj => exact hj
  obtain ⟨v', w', hr, h2, h3, -, h5⟩ := run_append_own_at (P := P) (w := w.alloc (.cells #[u0, u1, u2, u3] T)) base t o.type e i z 4 bytes ht hi hz hsize hby hzs (by decide) v n xs (hown.alloc _) ⟨w.heap.size, 0, none⟩ 1 1 [u0, u1, u2, u3] rfl hnews h1 h63 hbytes (by simp; omega)
  rw [World.size_alloc] at h5
  have h6 : w.heap.size < w'.heap.size := by have := h3.size; rw [World.size_alloc] at this; omega
  unfold Oper.wp execOp
  simp only [ho, resolve, invoke, builtin, Sem.run_bind, Sem.run_pure, Result.andThen_ok, List.map_toArray, List.map_cons, List.map_nil, hs, hx, hr]
  exact hK _ _ (h v' w' h2 (grown_trans (World.grownBy_alloc w _ _) h3) h6 h5)

/-- The blocks that the values of a list in the making may lie in: made since 'base', and not the row's own one. -/
def InRow (base : Nat) (v : Value) (w : World) (b : Nat) : Prop := base ≤ b ∧ b < w.heap.size ∧ some b ≠ v.ownBlock

/-- A row of values of one's own, as a slice. -/
theorem own_vals {w : World} {base : Nat} {e : TypeId} {v : Value} {n : Nat} {l : List V} {cells : List Value} (h : w.ownsRow base e 4 v n cells) (hr : RowOf w (InRow base v w) l cells) :
    ∃ a c, v = .slice a l.length c ∧ l.length ≤ c ∧ (a = none → c = 0) ∧ VAll w (fun b => base ≤ b ∧ b < w.heap.size) a 0 l := by
  have hn : n = l.length := by have := h.1; rw [hr.length] at this; omega
  have hlt := h.lt
  have hr2 : RowOf w (fun b => base ≤ b ∧ b < w.heap.size) l cells := hr.move (fun b hb => ⟨hb.1, hb.2.1⟩) (fun _ _ => rfl)
  rcases h.2 with ⟨hv, hl⟩ | ⟨g, c, cur, hv, hg, hh, hnc, _⟩
  · subst hv
    have hl0 : l = [] := List.eq_nil_of_length_eq_zero (by omega)
    subst hl0
    exact ⟨none, 0, rfl, Nat.le_refl _, fun _ => rfl, by simp only [VAll]⟩
  · subst hv
    subst hn
    obtain ⟨h1, h2⟩ := hlt g rfl
    refine ⟨some ⟨g, 0, none⟩, c, rfl, hnc, (fun e => by cases e), RowOf.all ⟨h1, h2⟩ hr2 fun j u hj => ?_⟩
    have := h.cells (g := g) rfl j u hj
    have e : (⟨g, 0, none⟩ : Addr).add j = ⟨g, j, none⟩ := by unfold Addr.add; split <;> simp_all
    rwa [e] at this

/-- Who makes blocks, and writes to one below all of them, leaves the row as it was. -/
theorem row_kept {w w' : World} {base r : Nat} {e : TypeId} {v : Value} {n : Nat} {l : List V} {cells : List Value} (h : w.ownsRow base e 4 v n cells) (hr : RowOf w (InRow base v w) l cells) (hg : w.grownBy w' (some r)) (hrb : r < base) :
    w'.ownsRow base e 4 v n cells ∧ RowOf w' (InRow base v w') l cells := by
  refine ⟨h.kept hg ?_, hr.move (fun b hb => ⟨hb.1, Nat.lt_of_lt_of_le hb.2.1 hg.size, hb.2.2⟩) fun b hb => hg.block b hb.2.1 (by simp; have := hb.1; omega)⟩
  by_cases hv : v.ownBlock = some r
  · have := (h.lt r hv).1; omega
  · exact .inr hv
/-- One value more: 'w' the world at its call, 'w1' behind it, 'w2' behind the append. -/
theorem row_snoc {w w1 w2 : World} {base : Nat} {e : TypeId} {v v' : Value} {n : Nat} {l : List V} {cells cs : List Value} {x : V}
    (h : w1.ownsRow base e 4 v n cells) (hr : RowOf w1 (InRow base v w1) l cells) (hx : V.At w1 (fun b => w.heap.size ≤ b ∧ b < w1.heap.size) x cs) (hb : base ≤ w.heap.size) (hvl : ∀ k, v.ownBlock = some k → k < w.heap.size)
    (hg : w1.grownBy w2 v.ownBlock) (ho : v'.ownBlock = v.ownBlock ∨ ∃ k, v'.ownBlock = some k ∧ w1.heap.size ≤ k) : RowOf w2 (InRow base v' w2) (l ++ [x]) (cells ++ cs) := by
  have hne : ∀ b, b < w1.heap.size → some b ≠ v.ownBlock → some b ≠ v'.ownBlock := by
    intro b hb1 hb2 e
    rcases ho with ho | ⟨k, ho, hk⟩
    · exact hb2 (e.trans ho)
    · rw [ho] at e; cases e; omega
  refine .snoc (hr.move (fun b hb => ⟨hb.1, Nat.lt_of_lt_of_le hb.2.1 hg.size, hne b hb.2.1 hb.2.2⟩) fun b hb => hg.block b hb.2.1 hb.2.2) ?_
  have hv : ∀ b, w.heap.size ≤ b → some b ≠ v.ownBlock := fun b hb e => by have := hvl b e.symm; omega
  exact V.At.move (fun b hb2 => ⟨Nat.le_trans hb hb2.1, Nat.lt_of_lt_of_le hb2.2 hg.size, hne b hb2.2 (hv b hb2.1)⟩) (fun b hb2 => hg.block b hb2.2 (hv b hb2.1)) _ _ hx
/-- A write to a row that is new is no write for who came before. -/
theorem grown_own {w w1 w2 : World} {row ro : Option Nat} (h : w.grownBy w1 row) (k : w1.grownBy w2 ro) (hb : ∀ b, ro = some b → w.heap.size ≤ b) : w.grownBy w2 row :=
  ⟨k.os.trans h.os, k.tape.trans h.tape, k.output.trans h.output, Nat.le_trans h.size k.size, fun i hi hr => (k.block i (Nat.lt_of_lt_of_le hi h.size) (fun e => by have := hb i e.symm; omega)).trans (h.block i hi hr)⟩
end Go.Proofs.YtdlnabjledhiiaaDoor

/-
  Rows of ops of one's own, and append onto them; without a condition but for the sizes.
-/
import Derived.Test.YtdlnabjledhiiaaDoorDl
import Derived.KernelRfl
import Derived.Test.YtdlnabjledhiiaaDoorRows
namespace Go.Proofs.YtdlnabjledhiiaaDoor
open Go.RowKit
set_option linter.unusedVariables false

def DOp.cells (o : DOp) : List Value := [.int .i64 o.f, .int .i64 o.l, .string o.t]
def opsCells (d : List DOp) : List Value := d.flatMap DOp.cells
theorem opsCells_cons (o : DOp) (d : List DOp) : opsCells (o :: d) = o.cells ++ opsCells d := by simp [opsCells]
theorem opsCells_append (a b : List DOp) : opsCells (a ++ b) = opsCells a ++ opsCells b := by simp [opsCells]
theorem opsCells_length (d : List DOp) : (opsCells d).length = d.length * 3 := by
  induction d with
  | nil => rfl
  | cons o r ih => rw [opsCells_cons, List.length_append, ih, List.length_cons]; simp [DOp.cells]; omega
theorem opsCells_get : ∀ (d : List DOp) (i : Nat) (h : i < d.length), (opsCells d)[i * 3]? = some (.int .i64 d[i].f) ∧ (opsCells d)[i * 3 + 1]? = some (.int .i64 d[i].l) ∧ (opsCells d)[i * 3 + 2]? = some (.string d[i].t)
  | o :: r, 0, _ => by rw [opsCells_cons]; exact ⟨rfl, rfl, rfl⟩
  | o :: r, i + 1, h => by
    have ih := opsCells_get r i (by simpa using h)
    rw [opsCells_cons]
    have e : ∀ k, (i + 1) * 3 + k = (DOp.cells o).length + (i * 3 + k) := fun k => by simp [DOp.cells]; omega
    have e0 := e 0
    simp only [Nat.add_zero] at e0
    rw [e0]
    simp only [Nat.add_assoc, List.getElem?_append_right (Nat.le_add_right _ _), Nat.add_sub_cancel_left]
    simpa using ih
theorem opsCells_one (d : List DOp) : ∀ u ∈ opsCells d, u.oneCell' = true := by
  intro u hu
  obtain ⟨o, _, ho⟩ := List.mem_flatMap.1 hu
  simp [DOp.cells] at ho
  rcases ho with rfl | rfl | rfl <;> rfl
theorem opsCells_mod {d : List DOp} {j : Nat} {u : Value} (h : (opsCells d)[j]? = some u) : ∃ (i : Nat) (hi : i < d.length), (j = i * 3 ∧ u = .int .i64 d[i].f) ∨ (j = i * 3 + 1 ∧ u = .int .i64 d[i].l) ∨ (j = i * 3 + 2 ∧ u = .string d[i].t) := by
  have hj := (List.getElem?_eq_some_iff.1 h).1
  rw [opsCells_length] at hj
  refine ⟨j / 3, by omega, ?_⟩
  obtain ⟨g0, g1, g2⟩ := opsCells_get d (j / 3) (by omega)
  have h3 : j % 3 = 0 ∨ j % 3 = 1 ∨ j % 3 = 2 := by omega
  rcases h3 with h3 | h3 | h3
  · have e : j = j / 3 * 3 := by omega
    rw [← e, h] at g0
    exact .inl ⟨e, by simpa using g0⟩
  · have e : j = j / 3 * 3 + 1 := by omega
    rw [← e, h] at g1
    exact .inr (.inl ⟨e, by simpa using g1⟩)
  · have e : j = j / 3 * 3 + 2 := by omega
    rw [← e, h] at g2
    exact .inr (.inr ⟨e, by simpa using g2⟩)
theorem add_none (b o n : Nat) : (⟨b, o, none⟩ : Addr).add n = ⟨b, o + n, none⟩ := by
  unfold Addr.add; split
  · rename_i h; subst h; rfl
  · rfl
/-- A slice of ops, as append reads it. -/
theorem OpsSl.cells {w : World} {b off n : Nat} {d : List DOp} (h : OpsSl w (some ⟨b, off, none⟩) n d) : ∀ j u, (opsCells d)[j]? = some u → w.cell? ((⟨b, off, none⟩ : Addr).add j) = some u := by
  intro j u hj
  rcases h.2 with rfl | ⟨b', off', e, hc⟩
  · simp [opsCells] at hj
  · cases e
    obtain ⟨i, hi, h3⟩ := opsCells_mod hj
    rw [add_none]
    obtain ⟨c0, c1, c2⟩ := hc i hi
    rcases h3 with ⟨rfl, rfl⟩ | ⟨rfl, rfl⟩ | ⟨rfl, rfl⟩
    · exact c0
    · rw [← Nat.add_assoc]; exact c1
    · rw [← Nat.add_assoc]; exact c2
/-- A row of ops of one's own, as a slice. -/
theorem own_ops {w : World} {base : Nat} {e : TypeId} {v : Value} {n : Nat} {d : List DOp} (h : w.ownsRow base e 3 v n (opsCells d)) :
    ∃ a c, v = .slice a n c ∧ n = d.length ∧ OpsSl w a n d ∧ (∀ x, a = some x → base ≤ x.block) ∧ n ≤ c ∧ (a = none → c = 0) := by
  have hn : n = d.length := by have := h.1; rw [opsCells_length] at this; omega
  rcases h.2 with ⟨hv, hl⟩ | ⟨g, c, cur, hv, hg, hh, hnc, _⟩
  · subst hv
    have hd : d = [] := List.eq_nil_of_length_eq_zero (by omega)
    subst hd
    subst hl
    exact ⟨_, _, rfl, rfl, ⟨rfl, .inl rfl⟩, fun x e => (by cases e), Nat.le_refl _, fun _ => rfl⟩
  · subst hv
    refine ⟨_, _, rfl, hn, ⟨hn, ?_⟩, fun x e => (by cases e; exact hg), hnc, fun e => by cases e⟩
    have hc := h.cells (g := g) rfl
    refine .inr ⟨g, 0, rfl, fun i hi => ?_⟩
    obtain ⟨g0, g1, g2⟩ := opsCells_get d i hi
    have k0 := hc _ _ g0
    have k1 := hc _ _ g1
    have k2 := hc _ _ g2
    rw [add_none] at k0 k1 k2
    exact ⟨k0, by rw [Nat.add_assoc]; exact k1, by rw [Nat.add_assoc]; exact k2⟩
theorem row_base3 {W : World} {base B : Nat} {e : TypeId} {size k : Nat} {v : Value} {xs : List Value} (h : W.ownsRow base e size v k xs) (hB : B ≤ base) : W.ownsRow B e size v k xs :=
  ⟨h.1, h.2.imp id (fun ⟨g, cap, cur, e1, hb, r⟩ => ⟨g, cap, cur, e1, Nat.le_trans hB hb, r⟩)⟩
theorem infoOp : (Tryd.prog.info? 32).map (fun i => (i.zero, i.size, i.bytes)) = some (some (.agg #[.int .i64 0, .int .i64 0, .string ⟨#[]⟩]), 3, 32) := by kernel_rfl

/-- append(v, x...) of ops, x whatever slice of ops. -/
theorem wpList_appOps {P : Program} (w : World) {ops : Array Oper} {rest : List Oper} {o : Oper} {a : Act} {Q : Exit → Act → World → Prop} (hgd : o.guard = none) (s x : Operand) (t : TypeId)
    (ho : o.op = .call { callee := .builtin .append, args := #[s, x], argTypes := #[t, t] })
    (base : Nat) (e : TypeId) (i : TypeInfo) (z : Value) (bytes : Nat) (ht : P.underlying t = some (.slice e)) (hi : P.info? e = some i) (hz : i.zero = some z)
    (hsize : i.size = 3) (hby : i.bytes = bytes) (hzs : z.cells.size = 3)
    (v : Value) (n : Nat) (d : List DOp) (hown : w.ownsRow base e 3 v n (opsCells d)) (hs : a.eval s = v)
    (b : Option Addr) (m c : Nat) (d' : List DOp) (hx : a.eval x = .slice b m c) (hsl : OpsSl w b m d') (hc : b = none → c = 0)
    (h63 : n + m ≤ maxLen) (hbytes : (n + m) * bytes ≤ 140737488355328) (hbase : base ≤ w.heap.size)
    (h : ∀ v' w', w'.ownsRow base e 3 v' (n + m) (opsCells (d ++ d')) → w.grownBy w' v.ownBlock → wpList P ops Q rest (a.put o.dst v') w') :
    wpList P ops Q (o :: rest) a w := by
  cases b with
  | none =>
    have hm : m = 0 := by
      rcases hsl.2 with rfl | ⟨_, _, e, _⟩
      · exact hsl.1
      · cases e
    subst hm
    have hd : d' = [] := List.eq_nil_of_length_eq_zero hsl.1.symm
    subst hd
    obtain rfl := hc rfl
    refine wpList_append_own_none hgd s x t ho base e i 3 ht hi v n _ hs hown hx (h v w (by simpa using hown) ⟨rfl, rfl, rfl, Nat.le_refl _, fun _ _ _ => rfl⟩)
  | some ad =>
    have hcell : ∀ j u, (opsCells d')[j]? = some u → w.cell? (ad.add j) = some u := by
      rcases hsl.2 with rfl | ⟨b', off', e, hcc⟩
      · intro j u hj; simp [opsCells] at hj
      · cases e; exact hsl.cells
    exact wpList_append_own w hgd s x t ho base e i z 3 bytes ht hi hz hsize hby hzs (by decide) v n _ hs hown ad m c (opsCells d') hx (by rw [opsCells_length, hsl.1]) hcell (opsCells_one d') h63 hbytes hbase (fun v' w' h2 h3 _ => h v' w' (by rw [opsCells_append]; exact h2) h3)
end Go.Proofs.YtdlnabjledhiiaaDoor

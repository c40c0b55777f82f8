/-
  Slices of one-celled elements, as this seat's contracts say them: what is read through one, what one of one's own holds; without a condition.
-/
import Derived.Test.YtjppommhamaibaaDoorMem
import Derived.OneCell
import Derived.OwnWalk
namespace Go.Proofs.YtjppommhamaibaaDoor
open Go.RowKit

/-- A block of one cell that may be written. -/
def One (w : World) (b : Nat) (t : TypeId) (v : Value) : Prop := w.heap[b]? = some (.cells #[v] t (0, 0))
theorem One.drew {w : World} {b : Nat} {t : TypeId} {v : Value} (h : One w b t v) : One w.drew b t v := h
theorem One.drewN {w : World} {b : Nat} {t : TypeId} {v : Value} (h : One w b t v) (n : Nat) : One (w.drewN n) b t v := h
theorem One.new (w : World) (t : TypeId) (v : Value) : One (w.alloc (.cells #[v] t)) w.heap.size t v := heap_alloc_new w _
theorem One.lt {w : World} {b : Nat} {t : TypeId} {v : Value} (h : One w b t v) : b < w.heap.size := lt_of_block h
theorem One.alloc {w : World} {b : Nat} {t : TypeId} {v : Value} (h : One w b t v) (o : Obj) : One (w.alloc o) b t v := (Below.heap_alloc w o b (lt_of_block h)).trans h
theorem One.grown {w w' : World} {b : Nat} {t : TypeId} {v : Value} (h : One w b t v) {row : Option Nat} (hg : w.grownBy w' row) (hr : some b ≠ row) : One w' b t v := (hg.block b (lt_of_block h) hr).trans h
theorem One.other {w : World} {b : Nat} {t : TypeId} {v : Value} (h : One w b t v) (a : Addr) (u : Value) (hn : b ≠ a.block) : One (w.setCell a u) b t v := (Below.heap_setCell w a u b hn).trans h
theorem One.below {w w' : World} {b : Nat} {t : TypeId} {v : Value} (h : One w b t v) (hb : Below w.heap.size w w') : One w' b t v := (hb.block b (lt_of_block h)).trans h
theorem One.ne {w : World} {b b' : Nat} {t t' : TypeId} {v v' : Value} (h : One w b t v) (h' : One w b' t' v') (hv : t ≠ t') : b ≠ b' := fun e => by
  subst e
  have := h.symm.trans h'
  simp at this
  exact hv this.2
theorem grown_trans {a b c : World} {row : Option Nat} (h : a.grownBy b row) (k : b.grownBy c row) : a.grownBy c row :=
  ⟨k.os.trans h.os, k.tape.trans h.tape, k.output.trans h.output, Nat.le_trans h.size k.size, fun i hi hr => (k.block i (Nat.lt_of_lt_of_le hi h.size) hr).trans (h.block i hi hr)⟩
theorem grown_drewN {a b : World} {row : Option Nat} (h : a.grownBy b row) (n : Nat) : a.grownBy (b.drewN n) row := ⟨h.os, h.tape, h.output, h.size, h.block⟩
theorem grown_setCell (w : World) (b o : Nat) (u : Value) : w.grownBy (w.setCell ⟨b, o, none⟩ u) (some b) :=
  ⟨rfl, rfl, rfl, by simp, fun k _ hk => Below.heap_setCell w _ u k (fun e => hk (by simp [e]))⟩
theorem grown_below {w w' : World} (h : Below w.heap.size w w') (row : Option Nat) : w.grownBy w' row := ⟨h.os, h.tape, h.output, h.size, fun k hk _ => h.block k hk⟩

/-- Through the slice (a, n) the values xs are read. -/
def SlAt (w : World) (a : Option Addr) (n : Nat) (xs : List Value) : Prop :=
  n = xs.length ∧ (xs = [] ∨ ∃ b off, a = some ⟨b, off, none⟩ ∧ ∀ i (h : i < xs.length), w.cell? ⟨b, off + i, none⟩ = some xs[i])
theorem SlAt.keep {w w' : World} {a : Option Addr} {n : Nat} {xs : List Value} (h : SlAt w a n xs) (hb : Below w.heap.size w w') : SlAt w' a n xs := by
  refine ⟨h.1, ?_⟩
  rcases h.2 with h0 | ⟨b, off, ha, hc⟩
  · exact .inl h0
  · exact .inr ⟨b, off, ha, fun i hi => cell_keep hb (hc i hi)⟩
theorem SlAt.kept {w w' : World} {a : Option Addr} {n : Nat} {xs : List Value} (h : SlAt w a n xs) {row : Option Nat} (hg : w.grownBy w' row) (hr : ∀ b, a.map Addr.block = some b → row ≠ some b) : SlAt w' a n xs := by
  refine ⟨h.1, ?_⟩
  rcases h.2 with h0 | ⟨b, off, ha, hc⟩
  · exact .inl h0
  · refine .inr ⟨b, off, ha, fun i hi => hg.cell (hc i hi) (fun e => hr b (by rw [ha]; rfl) e.symm)⟩
theorem SlAt.drewN {w : World} {a : Option Addr} {n : Nat} {xs : List Value} (h : SlAt w a n xs) (m : Nat) : SlAt (w.drewN m) a n xs := h
theorem SlAt.nil (w : World) (a : Option Addr) : SlAt w a 0 [] := ⟨rfl, .inl rfl⟩
/-- One's own row is read as what it holds. -/
theorem SlAt.ofOwn {w : World} {base : Nat} {e : TypeId} {a : Option Addr} {n cap k : Nat} {xs : List Value} (h : w.ownsRow base e 1 (.slice a n cap) k xs) : SlAt w a n xs := by
  have hl : xs.length = k := by have := h.1; omega
  rcases h.2 with ⟨hv, hk⟩ | ⟨g, c, cur, hv, hb, hg, hn, hm, hs, ht⟩
  · cases hv
    subst hk
    have : xs = [] := List.eq_nil_of_length_eq_zero hl
    subst this
    exact SlAt.nil w _
  · cases hv
    refine ⟨hl.symm, .inr ⟨g, 0, rfl, fun i hi => ?_⟩⟩
    have hc := h.cells (g := g) rfl i xs[i] (List.getElem?_eq_getElem hi)
    unfold Addr.add at hc
    split at hc
    · rename_i h0; subst h0; exact hc
    · exact hc
/-- The values of a slice of strings. -/
def strs (l : List ByteArray) : List Value := l.map Value.string
theorem strs_length (l : List ByteArray) : (strs l).length = l.length := by simp [strs]
theorem strs_snoc (l : List ByteArray) (s : ByteArray) : strs (l ++ [s]) = strs l ++ [Value.string s] := by simp [strs]
def i64s (l : List Int) : List Value := l.map (Value.int .i64)
theorem i64s_length (l : List Int) : (i64s l).length = l.length := by simp [i64s]
theorem i64s_snoc (l : List Int) (s : Int) : i64s (l ++ [s]) = i64s l ++ [Value.int .i64 s] := by simp [i64s]
theorem SlAt.str {w : World} {a : Option Addr} {n : Nat} {l : List ByteArray} (h : SlAt w a n (strs l)) (h0 : 0 < n) :
    n = l.length ∧ ∃ b off, a = some ⟨b, off, none⟩ ∧ ∀ i (h : i < l.length), w.cell? ⟨b, off + i, none⟩ = some (.string l[i]) := by
  have hl : n = l.length := by have := h.1; rw [strs_length] at this; exact this
  refine ⟨hl, ?_⟩
  rcases h.2 with h1 | ⟨b, off, ha, hc⟩
  · have := h.1; rw [h1] at this; simp at this; omega
  · exact ⟨b, off, ha, fun i hi => by rw [hc i (by rw [strs_length]; exact hi)]; simp [strs]⟩
theorem SlAt.i64 {w : World} {a : Option Addr} {n : Nat} {l : List Int} (h : SlAt w a n (i64s l)) (h0 : 0 < n) :
    n = l.length ∧ ∃ b off, a = some ⟨b, off, none⟩ ∧ ∀ i (h : i < l.length), w.cell? ⟨b, off + i, none⟩ = some (.int .i64 l[i]) := by
  have hl : n = l.length := by have := h.1; rw [i64s_length] at this; exact this
  refine ⟨hl, ?_⟩
  rcases h.2 with h1 | ⟨b, off, ha, hc⟩
  · have := h.1; rw [h1] at this; simp at this; omega
  · exact ⟨b, off, ha, fun i hi => by rw [hc i (by rw [i64s_length]; exact hi)]; simp [i64s]⟩
/-- Two lists of texts, two lists of numbers: are they one? -/
def likeB (a b : List ByteArray) : Bool := decide (a = b)
def intsB (a b : List Int) : Bool := decide (a = b)
theorem likeB_yes {a b : List ByteArray} (h : a = b) : likeB a b = true := decide_eq_true h
theorem likeB_no {a b : List ByteArray} (h : a ≠ b) : likeB a b = false := decide_eq_false h
theorem intsB_yes {a b : List Int} (h : a = b) : intsB a b = true := decide_eq_true h
theorem intsB_no {a b : List Int} (h : a ≠ b) : intsB a b = false := decide_eq_false h
theorem list_ext_upto {α : Type} (a b : List α) (h : a.length = b.length) (he : ∀ j (h1 : j < a.length) (h2 : j < b.length), a[j] = b[j]) : a = b :=
  List.ext_getElem h he
/-- A row of one's own, as a slice: read as what it holds; its block is one's own. -/
theorem own_slice {w : World} {base : Nat} {e : TypeId} {v : Value} {k : Nat} {xs : List Value} (h : w.ownsRow base e 1 v k xs) : ∃ a n c, v = .slice a n c ∧ SlAt w a n xs ∧ (∀ x, a = some x → base ≤ x.block) ∧ n ≤ c := by
  rcases h.2 with ⟨hv, hl⟩ | ⟨g, c, cur, hv, hg, hh, hn, _⟩
  · subst hv; exact ⟨_, _, _, rfl, SlAt.ofOwn h, fun x e => (by cases e), Nat.le_refl _⟩
  · subst hv; exact ⟨_, _, _, rfl, SlAt.ofOwn h, fun x e => (by cases e; exact hg), hn⟩
/-- A call hands back a slice of its own through which xs is read; new blocks alone are made. -/
def RetSl (w : World) (xs : List Value) (e : Ending) (w' : World) : Prop :=
  ∃ a n c, e = .returned (.slice a n c) ∧ SlAt w' a n xs ∧ Below w.heap.size w w' ∧ (∀ x, a = some x → w.heap.size ≤ x.block) ∧ n ≤ c
end Go.Proofs.YtjppommhamaibaaDoor

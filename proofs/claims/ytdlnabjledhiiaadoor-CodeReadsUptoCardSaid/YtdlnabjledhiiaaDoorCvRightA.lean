/-
  The walk of the closure of code.Right, and of code.Right.
-/
import Derived.Test.YtdlnabjledhiiaaDoorCvValAll
import Derived.RangeFuncBox
import Derived.Deep.DeepCutAuto
import Derived.Deep.CutBlock
namespace Go.Proofs.YtdlnabjledhiiaaDoor
open Go.RowKit
set_option linter.unusedVariables false

mutual
/-- How many values in all. -/
def V.cnt : V → Nat
  | .mk k n s l => 1 + cntAll l
def cntAll : List V → Nat
  | [] => 0
  | x :: r => x.cnt + cntAll r
end
theorem cntAll_ge : ∀ (l : List V), l.length ≤ cntAll l
  | [] => Nat.le_refl _
  | .mk k n s l' :: r => by simp only [List.length_cons, cntAll, V.cnt]; have := cntAll_ge r; omega

/-- How far the closure has come: how many values, how deep, whether all may be. -/
structure RS where
  many : Nat
  deepest : Nat
  ok : Bool
/-- May a value be, but for those within it? -/
def rightOne (k n : Int) (s : ByteArray) (l : List V) : Bool :=
  if k = 1 then decide (s.size = 0) && decide (l.length = 0)
  else if k = 2 then decide (n = 0) && decide (l.length = 0)
  else if k = 3 then decide (n = 0) && decide (s.size = 0) else false
mutual
def rightGo : V → Nat → RS → RS
  | .mk k n s l, deep, st => if 4000 < st.many + 1 then ⟨st.many + 1, max st.deepest deep, st.ok⟩ else rightAll l (deep + 1) ⟨st.many + 1, max st.deepest deep, st.ok && rightOne k n s l⟩
def rightAll : List V → Nat → RS → RS
  | [], _, st => st
  | x :: r, deep, st => rightAll r deep (rightGo x deep st)
end
/-- The closure's four boxes. -/
structure RtAt (w : World) (B : Nat) (st : RS) : Prop where
  m : Boxed w B 3 (.int .i64 (st.many : Int))
  d : Boxed w (B + 1) 3 (.int .i64 (st.deepest : Int))
  o : Boxed w (B + 2) 4 (.bool st.ok)
  f : Boxed w (B + 3) 84 (.func (.func 51) #[] #[.pointer (some ⟨B, 0, none⟩), .pointer (some ⟨B + 1, 0, none⟩), .pointer (some ⟨B + 2, 0, none⟩), .pointer (some ⟨B + 3, 0, none⟩)])
/-- Of what was there, the four boxes alone are written. -/
structure Wrote (B : Nat) (w w' : World) : Prop where
  os : w'.os = w.os
  tape : w'.tape = w.tape
  output : w'.output = w.output
  size : w.heap.size ≤ w'.heap.size
  block : ∀ k, k < w.heap.size → (k < B ∨ B + 3 < k) → w'.heap[k]? = w.heap[k]?
theorem Wrote.refl (B : Nat) (w : World) : Wrote B w w := ⟨rfl, rfl, rfl, Nat.le_refl _, fun _ _ _ => rfl⟩
theorem Wrote.trans {B : Nat} {a b c : World} (h : Wrote B a b) (k : Wrote B b c) : Wrote B a c :=
  ⟨k.os.trans h.os, k.tape.trans h.tape, k.output.trans h.output, Nat.le_trans h.size k.size, fun i hi hr => (k.block i (Nat.lt_of_lt_of_le hi h.size) hr).trans (h.block i hi hr)⟩
theorem Wrote.grown {B : Nat} {a b c : World} {row : Option Nat} (h : Wrote B a b) (k : b.grownBy c row) (hr : ∀ i, row = some i → a.heap.size ≤ i ∨ (B ≤ i ∧ i ≤ B + 3)) : Wrote B a c :=
  ⟨k.os.trans h.os, k.tape.trans h.tape, k.output.trans h.output, Nat.le_trans h.size k.size, fun i hi hb => (k.block i (Nat.lt_of_lt_of_le hi h.size) (fun e => by have := hr i e.symm; omega)).trans (h.block i hi hb)⟩
theorem RtAt.kept {w w' : World} {B : Nat} {st : RS} (h : RtAt w B st) {row : Option Nat} (hg : w.grownBy w' row) (hr : ∀ i, row = some i → i < B ∨ B + 3 < i) : RtAt w' B st :=
  ⟨h.m.kept hg (fun e => by have := hr _ e.symm; omega), h.d.kept hg (fun e => by have := hr _ e.symm; omega), h.o.kept hg (fun e => by have := hr _ e.symm; omega), h.f.kept hg (fun e => by have := hr _ e.symm; omega)⟩
/-- The place of a value in a row. -/
theorem VAll.at {w : World} {S : Nat → Prop} {a : Option Addr} : ∀ (i : Nat) (l : List V), VAll w S a i l → ∀ (k : Nat) (h : k < l.length), ∃ (b o : Nat) (cs : List Value), a = some ⟨b, o, none⟩ ∧ S b ∧ V.At w S l[k] cs ∧ ∀ j u, cs[j]? = some u → w.cell? ⟨b, o + (i + k) * 4 + j, none⟩ = some u
  | i, x :: r, h, 0, _ => by simp only [VAll] at h; exact h.1
  | i, x :: r, h, k + 1, hk => by
    simp only [VAll] at h
    have := VAll.at (i + 1) r h.2 k (by simpa using hk)
    rw [show i + (k + 1) = i + 1 + k by omega]
    simpa using this

theorem RS.eta (st : RS) : (⟨st.many, st.deepest, st.ok⟩ : RS) = st := rfl
mutual
theorem rightGo_many : ∀ (x : V) (deep : Nat) (st : RS), st.many + 1 ≤ (rightGo x deep st).many ∧ (rightGo x deep st).many ≤ st.many + x.cnt
  | .mk k n s l, deep, st => by
    rw [rightGo, V.cnt]
    split
    · exact ⟨Nat.le_refl _, by dsimp only; omega⟩
    · have := rightAll_many l (deep + 1) ⟨st.many + 1, max st.deepest deep, st.ok && rightOne k n s l⟩
      dsimp only at this
      omega
theorem rightAll_many : ∀ (l : List V) (deep : Nat) (st : RS), st.many ≤ (rightAll l deep st).many ∧ (rightAll l deep st).many ≤ st.many + cntAll l
  | [], deep, st => by rw [rightAll, cntAll]; exact ⟨Nat.le_refl _, Nat.le_refl _⟩
  | x :: r, deep, st => by
    rw [rightAll, cntAll]
    have h1 := rightGo_many x deep st
    have h2 := rightAll_many r deep (rightGo x deep st)
    omega
end
theorem cntAll_mem {l : List V} {x : V} (h : x ∈ l) : x.cnt ≤ cntAll l := by
  induction l with
  | nil => cases h
  | cons y r ih =>
    rw [cntAll]
    rcases List.mem_cons.1 h with rfl | h
    · omega
    · have := ih h; omega
theorem cntAll_drop {l : List V} {k : Nat} (h : k < l.length) : cntAll (l.drop k) = l[k].cnt + cntAll (l.drop (k + 1)) := by rw [List.drop_eq_getElem_cons h, cntAll]
theorem rightAll_drop {l : List V} {k : Nat} (h : k < l.length) (deep : Nat) (st : RS) : rightAll (l.drop k) deep st = rightAll (l.drop (k + 1)) deep (rightGo l[k] deep st) := by rw [List.drop_eq_getElem_cons h, rightAll]
theorem Wrote.at {B : Nat} {w w' : World} {S : Nat → Prop} (h : Wrote B w w') (hS : ∀ b, S b → b < w.heap.size ∧ (b < B ∨ B + 3 < b)) {x : V} {cs : List Value} (k : V.At w S x cs) : V.At w' S x cs :=
  V.At.move (fun _ hb => hb) (fun b hb => h.block b (hS b hb).1 (hS b hb).2) _ _ k
/-- What the closure leaves. -/
def RPost (B : Nat) (x : RS) (w : World) (e : Ending) (w' : World) : Prop := e = .returned (.tuple #[]) ∧ RtAt w' B x ∧ Wrote B w w'
end Go.Proofs.YtdlnabjledhiiaaDoor

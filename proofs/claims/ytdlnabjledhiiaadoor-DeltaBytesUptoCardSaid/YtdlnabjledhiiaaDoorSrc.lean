/-
  Slices that are read, whoever owns them: what append, Concat and Clone make of them.
-/
import Derived.Test.YtdlnabjledhiiaaDoorApp
import Derived.Test.YtdlnabjledhiiaaDoorInfo
import Derived.Laws.AppendOwnNone
import Derived.Lib.AppendZerosOnto
import Derived.Lib.SliceRun
import Derived.Deep.LoopGhost
namespace Go.Proofs.YtdlnabjledhiiaaDoor
open Go.RowKit
set_option linter.unusedVariables false

/-- Through the slice v the values xs are read; nil is without room. -/
def Src (w : World) (v : Value) (xs : List Value) : Prop :=
  (v = .slice none 0 0 ∧ xs = []) ∨ ∃ ad n c, v = .slice (some ad) n c ∧ n = xs.length ∧ n ≤ c ∧ ∀ j u, xs[j]? = some u → w.cell? (ad.add j) = some u
theorem Src.keep {w w' : World} {v : Value} {xs : List Value} (h : Src w v xs) (hb : Below w.heap.size w w') : Src w' v xs := by
  rcases h with h | ⟨ad, n, c, e, hn, hc, hx⟩
  · exact .inl h
  · exact .inr ⟨ad, n, c, e, hn, hc, fun j u hj => cell_keep hb (hx j u hj)⟩
theorem Src.kept {w w' : World} {v : Value} {xs : List Value} (h : Src w v xs) {row : Option Nat} (hg : w.grownBy w' row) (hr : ∀ k, row = some k → ∀ ad n c, v = .slice (some ad) n c → ad.block ≠ k) : Src w' v xs := by
  rcases h with h | ⟨ad, n, c, e, hn, hc, hx⟩
  · exact .inl h
  · refine .inr ⟨ad, n, c, e, hn, hc, fun j u hj => hg.cell (hx j u hj) (fun he => ?_)⟩
    refine hr _ he.symm ad n c e ?_
    unfold Addr.add; split <;> rfl
theorem Src.shape {w : World} {v : Value} {xs : List Value} (h : Src w v xs) : ∃ a c, v = .slice a xs.length c := by
  rcases h with ⟨rfl, rfl⟩ | ⟨ad, n, c, e, rfl, hc, hx⟩
  · exact ⟨_, _, rfl⟩
  · exact ⟨_, _, e⟩
theorem Src.ofStrs {w : World} {a : Option Addr} {len cap : Nat} {zs : List ByteArray} (h : IsStrs w a len cap zs) : Src w (.slice a len cap) (strs (zs.take len)) := by
  rcases h with ⟨rfl, rfl, rfl, rfl⟩ | ⟨x, rfl, h, _, hl, hc, _⟩
  · exact .inl ⟨rfl, rfl⟩
  · refine .inr ⟨x, len, cap, rfl, by rw [strs_length, List.length_take]; omega, h, fun j u hj => ?_⟩
    obtain ⟨hj1, hj2⟩ := List.getElem?_eq_some_iff.1 hj
    rw [strs_length, List.length_take] at hj1
    have hjz : j < zs.length := by omega
    rw [hc j hjz, ← hj2]
    simp [strs, List.getElem?_eq_getElem hjz]
theorem Src.ofSl {w : World} {a : Option Addr} {n c : Nat} {xs : List Value} (h : SlAt w a n xs) (hc : n ≤ c) (h0 : a = none → c = 0) : Src w (.slice a n c) xs := by
  cases a with
  | none =>
    obtain rfl := h0 rfl
    obtain rfl : n = 0 := by omega
    exact .inl ⟨rfl, List.eq_nil_of_length_eq_zero h.1.symm⟩
  | some ad =>
    refine .inr ⟨ad, n, c, rfl, h.1, hc, fun j u hj => ?_⟩
    rcases h.2 with rfl | ⟨b, off, e, hx⟩
    · cases hj
    · cases e
      obtain ⟨hj1, hj2⟩ := List.getElem?_eq_some_iff.1 hj
      have e : (⟨b, off, none⟩ : Addr).add j = ⟨b, off + j, none⟩ := by
        unfold Addr.add; split
        · rename_i h0; subst h0; rfl
        · rfl
      rw [e, hx j hj1, hj2]

theorem wpList_appS {P : Program} (w : World) {ops : Array Oper} {rest : List Oper} {o : Oper} {a : Act} {Q : Exit → Act → World → Prop} (hgd : o.guard = none) (s x : Operand) (t : TypeId)
    (ho : o.op = .call { callee := .builtin .append, args := #[s, x], argTypes := #[t, t] })
    (base : Nat) (e : TypeId) (i : TypeInfo) (z : Value) (bytes : Nat) (ht : P.underlying t = some (.slice e)) (hi : P.info? e = some i) (hz : i.zero = some z)
    (hsize : i.size = 1) (hby : i.bytes = bytes) (hzs : z.cells.size = 1)
    (v : Value) (n : Nat) (xs : List Value) (hown : w.ownsRow base e 1 v n xs) (hs : a.eval s = v)
    (u : Value) (ys : List Value) (hx : a.eval x = u) (hsrc : Src w u ys) (h1 : ∀ y ∈ ys, y.oneCell' = true)
    (h63 : n + ys.length ≤ maxLen) (hbytes : (n + ys.length) * bytes ≤ 140737488355328) (hbase : base ≤ w.heap.size)
    (h : ∀ v' w', w'.ownsRow base e 1 v' (n + ys.length) (xs ++ ys) → w.grownBy w' v.ownBlock → wpList P ops Q rest (a.put o.dst v') w') :
    wpList P ops Q (o :: rest) a w := by
  rcases hsrc with ⟨rfl, rfl⟩ | ⟨ad, m, c, rfl, hm, hc, hcell⟩
  · refine wpList_append_own_none hgd s x t ho base e i 1 ht hi v n xs hs hown hx (h v w (by simpa using hown) ?_)
    exact ⟨rfl, rfl, rfl, Nat.le_refl _, fun _ _ _ => rfl⟩
  · exact wpList_append_own w hgd s x t ho base e i z 1 bytes ht hi hz hsize hby hzs (by decide) v n xs hs hown ad m c ys hx (by omega) hcell h1 (by omega) (by rw [hm]; exact hbytes) hbase (fun v' w' h2 h3 _ => h v' w' (by rw [← hm]; exact h2) h3)

theorem strs_one (l : List ByteArray) : ∀ y ∈ strs l, y.oneCell' = true := by
  intro y hy
  obtain ⟨x, _, rfl⟩ := List.mem_map.1 hy
  rfl
end Go.Proofs.YtdlnabjledhiiaaDoor

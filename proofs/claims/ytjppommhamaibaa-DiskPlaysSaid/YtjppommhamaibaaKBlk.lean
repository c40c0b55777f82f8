/-
  A block known whole that append, copy and clear rewrite in place, whatever the elements' size in cells; without a condition but for the bounds.
-/
import Derived.Test.YtjppommhamaibaaKRow
import Derived.Laws.CopyRow
import Derived.Laws.CopyOwn
import Derived.Deep.RegionLaw
namespace Go.Proofs.Ytjppommhamaibaa
open Go.RowKit
set_option linter.unusedVariables false

/-- Block g holds these cells, and all may be written. -/
def Blk (w : World) (g : Nat) (t : TypeId) (cs : List Value) : Prop := w.heap[g]? = some (.cells cs.toArray t (0, 0))
theorem Blk.cell {w : World} {g : Nat} {t : TypeId} {cs : List Value} (h : Blk w g t cs) {j : Nat} {v : Value} (hj : cs[j]? = some v) : w.cell? ⟨g, j, none⟩ = some v := by
  rw [cell_of_row w g j cs.toArray t (0, 0) h]; simpa using hj
theorem Blk.cellAt {w : World} {g : Nat} {t : TypeId} {cs : List Value} (h : Blk w g t cs) (j : Nat) : w.cell? ⟨g, j, none⟩ = cs[j]? := by
  rw [cell_of_row w g j cs.toArray t (0, 0) h]; simp
theorem Blk.free {w : World} {g : Nat} {t : TypeId} {cs : List Value} (h : Blk w g t cs) (j : Nat) : w.frozen? ⟨g, j, none⟩ = false := frozen_of_row w g j _ _ h
theorem Blk.lt {w : World} {g : Nat} {t : TypeId} {cs : List Value} (h : Blk w g t cs) : g < w.heap.size := lt_of_block h
theorem Blk.drewN {w : World} {g : Nat} {t : TypeId} {cs : List Value} (h : Blk w g t cs) (n : Nat) : Blk (w.drewN n) g t cs := h
theorem Blk.alloc {w : World} {g : Nat} {t : TypeId} {cs : List Value} (h : Blk w g t cs) (o : Obj) : Blk (w.alloc o) g t cs := (Below.heap_alloc w o g (lt_of_block h)).trans h
theorem Blk.kept {w w' : World} {g : Nat} {t : TypeId} {cs : List Value} (h : Blk w g t cs) {row : Option Nat} (hg : w.grownBy w' row) (hr : some g ≠ row) : Blk w' g t cs := (hg.block g (lt_of_block h) hr).trans h
theorem Blk.keep {w w' : World} {g : Nat} {t : TypeId} {cs : List Value} (h : Blk w g t cs) (hb : Below w.heap.size w w') : Blk w' g t cs := (hb.block g (lt_of_block h)).trans h
theorem Blk.set {w : World} {g : Nat} {t : TypeId} {cs : List Value} (h : Blk w g t cs) (j : Nat) (u : Value) : Blk (w.setCell ⟨g, j, none⟩ u) g t (cs.set j u) := by
  unfold Blk at *
  have := heap_setCell_same w g j cs.toArray t u h
  simpa using this
theorem Blk.row {w : World} {g : Nat} {t : TypeId} {cs : List Value} (h : Blk w g t cs) (cs' : List Value) : Blk (w.setRow g cs'.toArray) g t cs' ∧ w.grownBy (w.setRow g cs'.toArray) (some g) :=
  ⟨setRow_heap w g _ _ t _ h, ⟨rfl, rfl, rfl, by simp [World.setRow], fun k _ hk => setRow_other w g k _ (fun e => hk (by rw [e]))⟩⟩
/-- A row of one's own as a block, and back. -/
theorem own_blk {w : World} {base g n c k size : Nat} {e : TypeId} {xs : List Value} (h : w.ownsRow base e size (.slice (some ⟨g, 0, none⟩) n c) k xs) : ∃ cs, Blk w g e cs ∧ cs.length = c * size ∧ cs.take (n * size) = xs ∧ base ≤ g ∧ n ≤ c ∧ c ≤ maxLen ∧ k = n := by
  rcases h.2 with ⟨hv, _⟩ | ⟨g', cap, cur, hv, hb, hg, hnc, hcm, hcs, htake⟩
  · cases hv
  · cases hv
    exact ⟨cur.toList, by simpa [Blk] using hg, by simpa using hcs, htake, hb, hnc, hcm, rfl⟩
theorem blk_own {w : World} {base g n c size : Nat} {e : TypeId} {cs : List Value} (h : Blk w g e cs) (hl : cs.length = c * size) (hb : base ≤ g) (hn : n ≤ c) (hc : c ≤ maxLen) {xs : List Value} (hx : cs.take (n * size) = xs) : w.ownsRow base e size (.slice (some ⟨g, 0, none⟩) n c) n xs := by
  refine ⟨?_, .inr ⟨g, c, cs.toArray, rfl, hb, h, hn, hc, by simpa using hl, by simpa using hx⟩⟩
  rw [← hx, List.length_take, hl]
  exact Nat.min_eq_left (Nat.mul_le_mul_right _ hn)

variable {P : Program} {w : World} {ops : Array Oper} {rest : List Oper} {o : Oper} {a : Act} {Q : Exit → Act → World → Prop} {K : Act → World → Prop} {E : Prop}
/-- What is read from an address on. -/
def Reads (w : World) (ad : Addr) (news : List Value) : Prop := ∀ j u, news[j]? = some u → w.cell? (ad.add j) = some u
theorem run_app_blk (t ty e : TypeId) (i : TypeInfo) (size : Nat) (ht : P.underlying t = some (.slice e)) (hi : P.info? e = some i) (hsize : i.size = size) {g n cap : Nat} {cs : List Value} (hg : Blk w g e cs)
    (ad : Addr) (m c : Nat) (news : List Value) (hl : news.length = m * size) (hnews : Reads w ad news) (h1 : ∀ u ∈ news, u.oneCell' = true) (hroom : n + m ≤ cap) (hfit : n * size + news.length ≤ cs.length) :
    (Builtin.append_ #[t, t] ty #[.slice (some ⟨g, 0, none⟩) n cap, .slice (some ad) m c]).run P w = .ok (.slice (some ⟨g, 0, none⟩) (n + m) cap) (w.setRow g (splice cs (n * size) news).toArray) := by
  subst hsize
  have h := run_append_room (P := P) w t ty e i ht hi g n cap cs.toArray hg ad m c news hl hnews h1 hroom (by simpa using hfit)
  rw [h]
  simp [splice]
theorem step_app_blk (hgd : o.guard = none) (s x : Operand) (t : TypeId) (hop : o.op = Op.call { callee := Callee.builtin Builtin.append, args := #[s, x], argTypes := #[t, t] })
    (e : TypeId) (i : TypeInfo) (size : Nat) (ht : P.underlying t = some (.slice e)) (hi : P.info? e = some i) (hsize : i.size = size) (g n cap : Nat) (cs : List Value) (hg : Blk w g e cs) (hs : a.eval s = .slice (some ⟨g, 0, none⟩) n cap)
    (ad : Addr) (m c : Nat) (news : List Value) (hx : a.eval x = .slice (some ad) m c) (hl : news.length = m * size) (hnews : Reads w ad news) (h1 : ∀ u ∈ news, u.oneCell' = true) (hroom : n + m ≤ cap) (hfit : n * size + news.length ≤ cs.length)
    (hK : ∀ w', Hid (Blk w' g e (splice cs (n * size) news)) → Hid (w.grownBy w' (some g)) → K (a.put o.dst (.slice (some ⟨g, 0, none⟩) (n + m) cap)) w') :
    if Region.wanted o (yielded ops a.tmps) = true then Oper.wp P o a w K Q else E := by
  have hw : Region.wanted o (yielded ops a.tmps) = true := by simp [Region.wanted, hgd]
  rw [if_pos hw]
  have hrun := run_app_blk (P := P) (w := w) t o.type e i size ht hi hsize (n := n) (cap := cap) hg ad m c news hl hnews h1 hroom hfit
  unfold Oper.wp
  simp [execOp, hop, resolve, invoke, builtin, hs, hx, hrun, Result.andThen]
  exact hK _ (Lib.hid (hg.row _).1) (Lib.hid (hg.row _).2)
theorem wpList_app_blk (hgd : o.guard = none) (s x : Operand) (t : TypeId) (hop : o.op = Op.call { callee := Callee.builtin Builtin.append, args := #[s, x], argTypes := #[t, t] })
    (e : TypeId) (i : TypeInfo) (size : Nat) (ht : P.underlying t = some (.slice e)) (hi : P.info? e = some i) (hsize : i.size = size) (g n cap : Nat) (cs : List Value) (hg : Blk w g e cs) (hs : a.eval s = .slice (some ⟨g, 0, none⟩) n cap)
    (ad : Addr) (m c : Nat) (news : List Value) (hx : a.eval x = .slice (some ad) m c) (hl : news.length = m * size) (hnews : Reads w ad news) (h1 : ∀ u ∈ news, u.oneCell' = true) (hroom : n + m ≤ cap) (hfit : n * size + news.length ≤ cs.length)
    (h : ∀ w', Hid (Blk w' g e (splice cs (n * size) news)) → Hid (w.grownBy w' (some g)) → wpList P ops Q rest (a.put o.dst (.slice (some ⟨g, 0, none⟩) (n + m) cap)) w') :
    wpList P ops Q (o :: rest) a w := by
  refine wpList_plain hgd fun _ hK => ?_
  have hrun := run_app_blk (P := P) (w := w) t o.type e i size ht hi hsize (n := n) (cap := cap) hg ad m c news hl hnews h1 hroom hfit
  unfold Oper.wp execOp
  simp only [hop, resolve, invoke, builtin, Sem.run_bind, Sem.run_pure, Result.andThen_ok, List.map_toArray, List.map_cons, List.map_nil, hs, hx, hrun]
  exact hK _ _ (h _ (Lib.hid (hg.row _).1) (Lib.hid (hg.row _).2))
theorem run_copy_blk (dT sT ty e : TypeId) (i : TypeInfo) (size : Nat) (ht : P.underlying dT = some (.slice e)) (hi : P.info? e = some i) (hsize : i.size = size) {g off dLen dCap : Nat} {cs : List Value} (hg : Blk w g e cs)
    (ad : Addr) (sLen sCap m : Nat) (news : List Value) (hm : m = Nat.min sLen dLen) (hl : news.length = m * size) (hnews : Reads w ad news) (h1 : ∀ u ∈ news, u.oneCell' = true) (hfit : off + news.length ≤ cs.length) :
    (Builtin.copy_ #[dT, sT] ty #[.slice (some ⟨g, off, none⟩) dLen dCap, .slice (some ad) sLen sCap]).run P w = .ok (goInt m) (w.setRow g (splice cs off news).toArray) := by
  subst hsize hm
  have hf := run_firstCells_some (P := P) w i.size (Nat.min sLen dLen) ad sLen sCap news hl hnews
  have hst := run_storeCells_at P g off e news 0 cs.toArray w hg (by simpa using hfit) h1
  simp [Builtin.copy_, run_underlying ht, Builtin.lenOf, sizeOf, typeInfo, hi, hf, hst, splice]
theorem wpList_copy_blk (hgd : o.guard = none) (d s : Operand) (dT sT : TypeId) (ho : o.op = .call { callee := .builtin .copy, args := #[d, s], argTypes := #[dT, sT] })
    (e : TypeId) (i : TypeInfo) (size : Nat) (ht : P.underlying dT = some (.slice e)) (hi : P.info? e = some i) (hsize : i.size = size) (g off dLen dCap : Nat) (cs : List Value) (hg : Blk w g e cs) (hd : a.eval d = .slice (some ⟨g, off, none⟩) dLen dCap)
    (ad : Addr) (sLen sCap m : Nat) (news : List Value) (hs : a.eval s = .slice (some ad) sLen sCap) (hm : m = Nat.min sLen dLen) (hl : news.length = m * size) (hnews : Reads w ad news) (h1 : ∀ u ∈ news, u.oneCell' = true) (hfit : off + news.length ≤ cs.length)
    (h : ∀ w', Hid (Blk w' g e (splice cs off news)) → Hid (w.grownBy w' (some g)) → wpList P ops Q rest (a.put o.dst (goInt m)) w') :
    wpList P ops Q (o :: rest) a w := by
  refine wpList_plain hgd fun _ hK => ?_
  have hrun := run_copy_blk (P := P) (w := w) dT sT o.type e i size ht hi hsize (dCap := dCap) hg ad sLen sCap m news hm hl hnews h1 hfit
  unfold Oper.wp execOp
  simp only [ho, resolve, invoke, builtin, Sem.run_bind, Sem.run_pure, Result.andThen_ok, List.map_toArray, List.map_cons, List.map_nil, hd, hs, hrun]
  exact hK _ _ (h _ (Lib.hid (hg.row _).1) (Lib.hid (hg.row _).2))
theorem step_copy_blk (hgd : o.guard = none) (d s : Operand) (dT sT : TypeId) (ho : o.op = .call { callee := .builtin .copy, args := #[d, s], argTypes := #[dT, sT] })
    (e : TypeId) (i : TypeInfo) (size : Nat) (ht : P.underlying dT = some (.slice e)) (hi : P.info? e = some i) (hsize : i.size = size) (g off dLen dCap : Nat) (cs : List Value) (hg : Blk w g e cs) (hd : a.eval d = .slice (some ⟨g, off, none⟩) dLen dCap)
    (ad : Addr) (sLen sCap m : Nat) (news : List Value) (hs : a.eval s = .slice (some ad) sLen sCap) (hm : m = Nat.min sLen dLen) (hl : news.length = m * size) (hnews : Reads w ad news) (h1 : ∀ u ∈ news, u.oneCell' = true) (hfit : off + news.length ≤ cs.length)
    (hK : ∀ w', Hid (Blk w' g e (splice cs off news)) → Hid (w.grownBy w' (some g)) → K (a.put o.dst (goInt m)) w') :
    if Region.wanted o (yielded ops a.tmps) = true then Oper.wp P o a w K Q else E := by
  have hw : Region.wanted o (yielded ops a.tmps) = true := by simp [Region.wanted, hgd]
  rw [if_pos hw]
  have hrun := run_copy_blk (P := P) (w := w) dT sT o.type e i size ht hi hsize (dCap := dCap) hg ad sLen sCap m news hm hl hnews h1 hfit
  unfold Oper.wp
  simp [execOp, ho, resolve, invoke, builtin, hd, hs, hrun, Result.andThen]
  exact hK _ (Lib.hid (hg.row _).1) (Lib.hid (hg.row _).2)
theorem run_clear_blk (T ty e : TypeId) (z : Value) (zs : List Value) (ht : P.underlying T = some (.slice e)) (hz : ∀ w, (zeroValue e).run P w = .ok z w) {g off n c : Nat} {cs : List Value} (hg : Blk w g e cs) (h0 : 0 < n) (hzs : (Builtin.zeroCells z.cells n).toList = zs)
    (h1 : ∀ u ∈ zs, u.oneCell' = true) (hfit : off + zs.length ≤ cs.length) :
    (Builtin.clear_ #[T] ty #[.slice (some ⟨g, off, none⟩) n c]).run P w = .ok (.tuple #[]) (w.setRow g (splice cs off zs).toArray) := by
  subst hzs
  have hst := run_storeCells_at P g off e (Builtin.zeroCells z.cells n).toList 0 cs.toArray w hg (by simpa using hfit) h1
  obtain ⟨m, rfl⟩ : ∃ m, n = m + 1 := ⟨n - 1, by omega⟩
  simp [Builtin.clear_, run_underlying ht, hz, hst, splice] at hst ⊢
theorem wpList_clear_blk (hgd : o.guard = none) (s : Operand) (T : TypeId) (ho : o.op = .call { callee := .builtin .clear, args := #[s], argTypes := #[T] })
    (e : TypeId) (z : Value) (zs : List Value) (ht : P.underlying T = some (.slice e)) (hz : ∀ w, (zeroValue e).run P w = .ok z w) (g off n c : Nat) (cs : List Value) (hg : Blk w g e cs) (hs : a.eval s = .slice (some ⟨g, off, none⟩) n c) (h0 : 0 < n) (hzs : (Builtin.zeroCells z.cells n).toList = zs)
    (h1 : ∀ u ∈ zs, u.oneCell' = true) (hfit : off + zs.length ≤ cs.length)
    (h : ∀ w', Hid (Blk w' g e (splice cs off zs)) → Hid (w.grownBy w' (some g)) → wpList P ops Q rest (a.put o.dst (.tuple #[])) w') :
    wpList P ops Q (o :: rest) a w := by
  refine wpList_plain hgd fun _ hK => ?_
  have hrun := run_clear_blk (P := P) (w := w) T o.type e z zs ht hz (c := c) hg h0 hzs h1 hfit
  unfold Oper.wp execOp
  simp only [ho, resolve, invoke, builtin, Sem.run_bind, Sem.run_pure, Result.andThen_ok, List.map_toArray, List.map_cons, List.map_nil, hs, hrun]
  exact hK _ _ (h _ (Lib.hid (hg.row _).1) (Lib.hid (hg.row _).2))
end Go.Proofs.Ytjppommhamaibaa

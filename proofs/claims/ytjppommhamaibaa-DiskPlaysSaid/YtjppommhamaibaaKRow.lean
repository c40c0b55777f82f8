/-
  Slices of structs, whatever the struct: what is read through one, what one of one's own holds, append onto it, a parameter that is one; without a condition but for the sizes.
-/
import Derived.Test.YtjppommhamaibaaApp
import Derived.Deep.Slices
import Derived.Deep.Fields
import Derived.ChangeSame
import Derived.OpenShut
import Derived.SizedLaws
import Derived.Laws.AppendOwnNone
import Derived.Lib.Builder
namespace Go.Proofs.Ytjppommhamaibaa
open Go.RowKit Go.ChangeShapes Go.WideShapes Go.Deep
set_option linter.unusedVariables false

/-- How a struct lies: its cells. -/
structure Enc (α : Type) where
  k : Nat
  enc : α → List Value
  len : ∀ x, (enc x).length = k
  one : ∀ x, ∀ u ∈ enc x, u.oneCell' = true
  pos : 0 < k
namespace Enc
variable {α : Type} (E : Enc α)
def cells (d : List α) : List Value := d.flatMap E.enc
theorem cells_nil : E.cells [] = [] := rfl
theorem cells_cons (o : α) (d : List α) : E.cells (o :: d) = E.enc o ++ E.cells d := by simp [cells]
theorem cells_append (a b : List α) : E.cells (a ++ b) = E.cells a ++ E.cells b := by simp [cells]
theorem cells_length (d : List α) : (E.cells d).length = d.length * E.k := by
  induction d with
  | nil => simp [cells]
  | cons o r ih => rw [cells_cons, List.length_append, ih, List.length_cons, E.len, Nat.add_mul, Nat.one_mul, Nat.add_comm]
theorem cells_one (d : List α) : ∀ u ∈ E.cells d, u.oneCell' = true := by
  intro u hu
  obtain ⟨o, _, ho⟩ := List.mem_flatMap.1 hu
  exact E.one o u ho
theorem cells_get : ∀ (d : List α) (i : Nat) (h : i < d.length) (j : Nat) (hj : j < E.k), (E.cells d)[i * E.k + j]? = (E.enc d[i])[j]?
  | o :: r, 0, _, j, hj => by rw [E.cells_cons, Nat.zero_mul, Nat.zero_add, List.getElem?_append_left (by rw [E.len]; exact hj)]; rfl
  | o :: r, i + 1, h, j, hj => by
    have ih := cells_get r i (by simpa using h) j hj
    rw [E.cells_cons, List.getElem?_append_right (by rw [E.len, Nat.add_mul, Nat.one_mul]; omega), E.len]
    rw [show (i + 1) * E.k + j - E.k = i * E.k + j by rw [Nat.add_mul, Nat.one_mul]; omega]
    simpa using ih
theorem cells_mod {d : List α} {p : Nat} {u : Value} (h : (E.cells d)[p]? = some u) : ∃ (i : Nat) (hi : i < d.length) (j : Nat), j < E.k ∧ p = i * E.k + j ∧ (E.enc d[i])[j]? = some u := by
  have hp := (List.getElem?_eq_some_iff.1 h).1
  rw [E.cells_length] at hp
  have hk := E.pos
  have hi : p / E.k < d.length := Nat.div_lt_of_lt_mul (by rw [Nat.mul_comm]; exact hp)
  have hj : p % E.k < E.k := Nat.mod_lt _ hk
  have he : p = p / E.k * E.k + p % E.k := by rw [Nat.mul_comm]; exact (Nat.div_add_mod p E.k).symm
  refine ⟨p / E.k, hi, p % E.k, hj, he, ?_⟩
  rw [← E.cells_get d _ hi _ hj, ← he]
  exact h
theorem cells_inj_len {d d' : List α} (h : E.cells d = E.cells d') : d.length = d'.length := by
  have := congrArg List.length h
  rw [E.cells_length, E.cells_length] at this
  exact Nat.eq_of_mul_eq_mul_right E.pos this

/-- Through the slice (a, n) the structs d are read. -/
def Sl (w : World) (a : Option Addr) (n : Nat) (d : List α) : Prop :=
  n = d.length ∧ (d = [] ∨ ∃ b off, a = some ⟨b, off, none⟩ ∧ ∀ i (h : i < d.length) j u, (E.enc d[i])[j]? = some u → w.cell? ⟨b, off + i * E.k + j, none⟩ = some u)
variable {E}
theorem Sl.keep {w w' : World} {a : Option Addr} {n : Nat} {d : List α} (h : E.Sl w a n d) (hb : Below w.heap.size w w') : E.Sl w' a n d := by
  refine ⟨h.1, ?_⟩
  rcases h.2 with h0 | ⟨b, off, ha, hc⟩
  · exact .inl h0
  · exact .inr ⟨b, off, ha, fun i hi j u hu => cell_keep hb (hc i hi j u hu)⟩
theorem Sl.kept {w w' : World} {a : Option Addr} {n : Nat} {d : List α} (h : E.Sl w a n d) {row : Option Nat} (hg : w.grownBy w' row) (hr : ∀ b, a.map Addr.block = some b → row ≠ some b) : E.Sl w' a n d := by
  refine ⟨h.1, ?_⟩
  rcases h.2 with h0 | ⟨b, off, ha, hc⟩
  · exact .inl h0
  · exact .inr ⟨b, off, ha, fun i hi j u hu => hg.cell (hc i hi j u hu) (fun e => hr b (by rw [ha]; rfl) e.symm)⟩
theorem Sl.drewN {w : World} {a : Option Addr} {n : Nat} {d : List α} (h : E.Sl w a n d) (m : Nat) : E.Sl (w.drewN m) a n d := h
theorem Sl.nil (w : World) (a : Option Addr) : E.Sl w a 0 [] := ⟨rfl, .inl rfl⟩
theorem Sl.take {w : World} {a : Option Addr} {n m : Nat} {d : List α} (h : E.Sl w a n d) (hm : m ≤ n) : E.Sl w a m (d.take m) := by
  refine ⟨by rw [List.length_take]; have := h.1; omega, ?_⟩
  rcases h.2 with rfl | ⟨b, off, ha, hc⟩
  · exact .inl (by simp)
  · exact .inr ⟨b, off, ha, fun i hi j u hu => by
      have hi' : i < d.length := by rw [List.length_take] at hi; omega
      rw [List.getElem_take] at hu; exact hc i hi' j u hu⟩
theorem Sl.at {w : World} {a : Option Addr} {n : Nat} {d : List α} (h : E.Sl w a n d) (h0 : 0 < n) :
    n = d.length ∧ ∃ b off, a = some ⟨b, off, none⟩ ∧ ∀ i (h : i < d.length) j u, (E.enc d[i])[j]? = some u → w.cell? ⟨b, off + i * E.k + j, none⟩ = some u := by
  refine ⟨h.1, ?_⟩
  rcases h.2 with rfl | h
  · have := h.1; simp at this; omega
  · exact h
theorem Sl.drop {w : World} {b off n m : Nat} {d : List α} (h : E.Sl w (some ⟨b, off, none⟩) n d) (hm : m ≤ n) : E.Sl w (some ⟨b, off + m * E.k, none⟩) (n - m) (d.drop m) := by
  refine ⟨by rw [List.length_drop, h.1], ?_⟩
  rcases h.2 with rfl | ⟨b', off', ha, hc⟩
  · exact .inl (by simp)
  · cases ha
    refine .inr ⟨b, off + m * E.k, rfl, fun i hi j u hu => ?_⟩
    rw [List.length_drop] at hi
    rw [List.getElem_drop] at hu
    have := hc (m + i) (by omega) j u hu
    rw [Nat.add_mul] at this
    rw [Nat.add_assoc off]
    exact this
theorem add_is (b o n : Nat) : (⟨b, o, none⟩ : Addr).add n = ⟨b, o + n, none⟩ := by
  unfold Addr.add; split
  · rename_i h; subst h; rfl
  · rfl
/-- As append reads it. -/
theorem Sl.flat {w : World} {b off n : Nat} {d : List α} (h : E.Sl w (some ⟨b, off, none⟩) n d) : ∀ j u, (E.cells d)[j]? = some u → w.cell? ((⟨b, off, none⟩ : Addr).add j) = some u := by
  intro p u hp
  rcases h.2 with rfl | ⟨b', off', e, hc⟩
  · simp [cells] at hp
  · cases e
    obtain ⟨i, hi, j, hj, rfl, hu⟩ := E.cells_mod hp
    rw [add_is, ← Nat.add_assoc]
    exact hc i hi j u hu
/-- What one block holds from a place on. -/
theorem Sl.ofCells {w : World} {b off : Nat} {d : List α} (h : ∀ j u, (E.cells d)[j]? = some u → w.cell? ⟨b, off + j, none⟩ = some u) : E.Sl w (some ⟨b, off, none⟩) d.length d := by
  refine ⟨rfl, .inr ⟨b, off, rfl, fun i hi j u hu => ?_⟩⟩
  have hj : j < E.k := by have := (List.getElem?_eq_some_iff.1 hu).1; rwa [E.len] at this
  have := h (i * E.k + j) u (by rw [E.cells_get d i hi j hj]; exact hu)
  rwa [← Nat.add_assoc] at this
/-- A new block of one struct, as a slice. -/
theorem Sl.one (w : World) (x : α) (T : TypeId) (cs : Array Value) (hcs : cs.toList = E.enc x) : E.Sl (w.alloc (.cells cs T)) (some ⟨w.heap.size, 0, none⟩) 1 [x] := by
  have h := Sl.ofCells (E := E) (w := w.alloc (.cells cs T)) (b := w.heap.size) (off := 0) (d := [x]) fun j u hu => by
    rw [E.cells_cons, E.cells_nil, List.append_nil] at hu
    rw [Nat.zero_add]
    have hb : (w.alloc (.cells cs T)).heap[w.heap.size]? = some (.cells cs T (0, 0)) := heap_alloc_new w _
    rw [Lib.cell_of_heap hb j, ← hu, ← hcs]
    simp
  exact h
/-- A row of one's own, as a slice. -/
theorem own_sl {w : World} {base : Nat} {e : TypeId} {v : Value} {n : Nat} {d : List α} (h : w.ownsRow base e E.k v n (E.cells d)) :
    ∃ a c, v = .slice a n c ∧ n = d.length ∧ E.Sl w a n d ∧ (∀ x, a = some x → base ≤ x.block) ∧ n ≤ c ∧ (a = none → c = 0) := by
  have hn : n = d.length := by have := h.1; rw [E.cells_length] at this; exact (Nat.eq_of_mul_eq_mul_right E.pos this).symm
  rcases h.2 with ⟨hv, hl⟩ | ⟨g, c, cur, hv, hg, hh, hnc, _⟩
  · subst hv
    have hd : d = [] := List.eq_nil_of_length_eq_zero (by omega)
    subst hd
    subst hl
    exact ⟨_, _, rfl, rfl, Sl.nil _ _, fun x e => (by cases e), Nat.le_refl _, fun _ => rfl⟩
  · subst hv
    subst hn
    refine ⟨_, _, rfl, rfl, Sl.ofCells fun j u hu => ?_, fun x e => (by cases e; exact hg), hnc, fun e => by cases e⟩
    have hc := h.cells (g := g) rfl j u hu
    rw [add_is] at hc
    exact hc
theorem row_down {W : World} {base B : Nat} {e : TypeId} {size k : Nat} {v : Value} {xs : List Value} (h : W.ownsRow base e size v k xs) (hB : B ≤ base) : W.ownsRow B e size v k xs :=
  ⟨h.1, h.2.imp id (fun ⟨g, cap, cur, e1, hb, r⟩ => ⟨g, cap, cur, e1, Nat.le_trans hB hb, r⟩)⟩
/-- A row of one's own stays one behind what makes new blocks alone. -/
theorem row_under {w w' : World} {base : Nat} {e : TypeId} {size : Nat} {v : Value} {n : Nat} {xs : List Value} (h : w.ownsRow base e size v n xs) (hb : Below w.heap.size w w') : w'.ownsRow base e size v n xs :=
  h.kept (grown_below hb none) (by cases hv : v.ownBlock <;> simp)
/-- The empty row that a literal makes. -/
theorem row_lit0 (w : World) (base : Nat) (hb : base ≤ w.heap.size) (e : TypeId) (size : Nat) : (w.alloc (.cells #[] e)).ownsRow base e size (.slice (some ⟨w.heap.size, 0, none⟩) 0 0) 0 [] :=
  row_down (World.ownsRow_made (base := w.heap.size) (e := e) (size := size) w #[] 0 (Nat.le_refl _) (Nat.zero_le _) (by simp)) hb

/-- append(v, x...) of structs, x whatever slice of them. -/
theorem wpList_app {P : Program} (w : World) {ops : Array Oper} {rest : List Oper} {o : Oper} {a : Act} {Q : Exit → Act → World → Prop} (hgd : o.guard = none) (s x : Operand) (t : TypeId)
    (ho : o.op = .call { callee := .builtin .append, args := #[s, x], argTypes := #[t, t] })
    (base : Nat) (e : TypeId) (i : TypeInfo) (z : Value) (bytes : Nat) (ht : P.underlying t = some (.slice e)) (hi : P.info? e = some i) (hz : i.zero = some z)
    (hsize : i.size = E.k) (hby : i.bytes = bytes) (hzs : z.cells.size = E.k)
    (v : Value) (n : Nat) (d : List α) (hown : w.ownsRow base e E.k v n (E.cells d)) (hs : a.eval s = v)
    (b : Option Addr) (m c : Nat) (d' : List α) (hx : a.eval x = .slice b m c) (hsl : E.Sl w b m d') (hc : b = none → c = 0)
    (h63 : n + m ≤ maxLen) (hbytes : (n + m) * bytes ≤ 140737488355328) (hbase : base ≤ w.heap.size)
    (h : ∀ v' w', w'.ownsRow base e E.k v' (n + m) (E.cells (d ++ d')) → w.grownBy w' v.ownBlock → wpList P ops Q rest (a.put o.dst v') w') :
    wpList P ops Q (o :: rest) a w := by
  cases b with
  | none =>
    have hm : m = 0 := by
      rcases hsl.2 with rfl | ⟨_, _, e, _⟩
      · exact hsl.1
      · cases e
    subst hm
    have hd : d' = [] := List.eq_nil_of_length_eq_zero hsl.1.symm
    subst hd
    obtain rfl := hc rfl
    refine wpList_append_own_none hgd s x t ho base e i E.k ht hi v n _ hs hown hx (h v w (by simpa using hown) ⟨rfl, rfl, rfl, Nat.le_refl _, fun _ _ _ => rfl⟩)
  | some ad =>
    have hcell : ∀ j u, (E.cells d')[j]? = some u → w.cell? (ad.add j) = some u := by
      rcases hsl.2 with rfl | ⟨b', off', e, hcc⟩
      · intro j u hj; simp [cells] at hj
      · cases e; exact hsl.flat
    exact wpList_append_own w hgd s x t ho base e i z E.k bytes ht hi hz hsize hby hzs E.pos v n _ hs hown ad m c (E.cells d') hx (by rw [E.cells_length, hsl.1]) hcell (E.cells_one d') h63 hbytes hbase (fun v' w' h2 h3 _ => h v' w' (by rw [E.cells_append]; exact h2) h3)
end Enc

/-- A struct's fields: their types and offsets. -/
def structOf (P : Program) (t : TypeId) : Option (List (TypeId × Nat)) :=
  match P.underlying t with
  | some (.struct fs) => some (fs.toList.map fun f => (f.type, f.offset))
  | _ => none
section
variable {H : Type} {enc : TypeId × Value → H} {P : Program} {w : World} {base : Nat} {spare : Nat → Bool} {held : Bool}
theorem trod_field {t : TypeId} {l : List (TypeId × Nat)} {fuel : Nat} {cs : List Value} {x : DataW H × List MemPlace} (hs : structOf P t = some l) (h : DataW.trod enc P w base spare held fuel t cs = some x) :
    cs.length = P.cellsOf t ∧ ∀ (i : Nat) (ti : TypeId) (oi : Nat), l[i]? = some (ti, oi) → ∃ n y, DataW.trod enc P w base spare held n ti ((cs.drop oi).take (P.cellsOf ti)) = some y := by
  unfold structOf at hs
  split at hs
  · rename_i fs hu
    obtain ⟨xs, n, _, _, hl, hlen, hf⟩ := DataW.trod_struct hu h
    cases hs
    refine ⟨hl, fun i ti oi hi => ?_⟩
    rw [List.getElem?_map] at hi
    cases hfi : fs.toList[i]? with
    | none => rw [hfi] at hi; cases hi
    | some f =>
      rw [hfi] at hi
      simp at hi
      obtain ⟨rfl, rfl⟩ := hi
      have hfa : fs[i]? = some f := by simpa using hfi
      have h1 := hf i f hfa
      have hlt : i < xs.length := by rw [hlen]; exact (Array.getElem?_eq_some_iff.1 hfa).1
      rw [List.getElem?_eq_getElem hlt] at h1
      exact ⟨n, _, h1⟩
  · cases hs
theorem one_of {l : List Value} {i : Nat} (h : i < l.length) : (l.drop i).take 1 = [l[i]] := by
  rw [List.drop_eq_getElem_cons h]; rfl
theorem spot_none {w : World} {a : Addr} {v : Value} (h : w.cell? a = some v) : a = ⟨a.block, a.off, none⟩ := by
  obtain ⟨b, o, s⟩ := a
  cases s with
  | none => rfl
  | some x =>
    unfold World.cell? at h
    split at h <;> simp at h
/-- A slice of structs that came in. -/
theorem open_rows {α : Type} (E : Enc α) (wf : α → Prop) {ts te : TypeId} (ht : P.underlying ts = some (.slice te)) (hce : P.cellsOf te = E.k)
    (hread : ∀ n cs y, DataW.trod enc P w base spare held n te cs = some y → cs.length = E.k → ∃ x, cs = E.enc x ∧ wf x)
    {a : Option Addr} {len cap : Nat} {x : DataW H} {p : List MemPlace} {fuel : Nat}
    (hf : DataW.trod enc P w base spare held fuel ts [.slice a len cap] = some (x, p)) : (len = 0 ∨ ∃ el sp, x = .slice el sp ∧ el.length = len) ∧ ∃ d : List α, E.Sl w a len d ∧ len ≤ cap ∧ cap ≤ maxLen ∧ (a = none → cap = 0) ∧ ∀ o ∈ d, wf o := by
  rcases open_slice ht hf with ⟨hcs, _⟩ | ⟨ad, l, c, m, n, D, Pl, hcs, _, hl, hm, hmm, hx, hi⟩
  · simp at hcs
    obtain ⟨rfl, rfl, rfl⟩ := hcs
    refine ⟨.inl rfl, ?_⟩
    exact ⟨[], Enc.Sl.nil _ _, Nat.le_refl _, Nat.zero_le _, fun _ => rfl, fun o ho => by cases ho⟩
  · simp at hcs
    obtain ⟨rfl, rfl, rfl⟩ := hcs
    refine ⟨.inr ⟨_, _, (Prod.mk.inj hx).1, by simp⟩, ?_⟩
    have hlm : len ≤ m := by rw [hmm]; split <;> omega
    have each : ∀ i, i < len → ∃ o : α, (∀ j u, (E.enc o)[j]? = some u → w.cell? ((ad.add (i * E.k)).add j) = some u) ∧ wf o := by
      intro i hil
      obtain ⟨cs', h1, h2⟩ := hi i (by omega)
      rw [hce] at h1
      obtain ⟨_, hln, hat⟩ := World.cells?_some h1
      obtain ⟨o, rfl, hwf⟩ := hread _ _ _ h2 hln
      refine ⟨o, fun j u hu => ?_, hwf⟩
      have hj : j < E.k := by have := (List.getElem?_eq_some_iff.1 hu).1; rwa [E.len] at this
      have := hat j hj
      rw [hu] at this
      by_cases hj0 : j = 0
      · subst hj0; simpa [Addr.add] using this
      · exact this
    clear hi
    by_cases h0 : len = 0
    · subst h0
      exact ⟨[], Enc.Sl.nil _ _, hl, hm, (fun e => by cases e), fun o ho => by cases ho⟩
    · obtain ⟨b, off, rfl⟩ : ∃ b off, ad = ⟨b, off, none⟩ := by
        obtain ⟨o, h1, _⟩ := each 0 (by omega)
        have hlt : 0 < (E.enc o).length := by rw [E.len]; exact E.pos
        have hsp := spot_none (h1 0 _ (List.getElem?_eq_getElem hlt))
        rw [Nat.zero_mul] at hsp
        exact ⟨ad.block, ad.off, by simpa [Addr.add] using hsp⟩
      obtain ⟨pick, hpick⟩ : ∃ pick : (i : Nat) → i < len → α, ∀ i (hi : i < len), (∀ j u, (E.enc (pick i hi))[j]? = some u → w.cell? (((⟨b, off, none⟩ : Addr).add (i * E.k)).add j) = some u) ∧ wf (pick i hi) :=
        ⟨fun i hi => Classical.choose (each i hi), fun i hi => Classical.choose_spec (each i hi)⟩
      refine ⟨List.ofFn fun i : Fin len => pick i.1 i.2, ⟨by simp, .inr ⟨b, off, rfl, fun i hi j u hu => ?_⟩⟩, hl, hm, (fun e => by cases e), fun o ho => ?_⟩
      · have hil : i < len := by simpa using hi
        simp only [List.getElem_ofFn] at hu
        have h3 := (hpick i hil).1 j u hu
        simp only [Enc.add_is] at h3
        exact h3
      · obtain ⟨i, hi, rfl⟩ := List.getElem_of_mem ho
        simp only [List.getElem_ofFn]
        exact (hpick i (by simpa using hi)).2
end
end Go.Proofs.Ytjppommhamaibaa

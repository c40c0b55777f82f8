/-
  A parameter that is a slice of ops: what it holds, read off its datum; without a condition.
-/
import Derived.Test.YtdlnabjledhiiaaDoorDl
import Derived.Deep.Slices
import Derived.Deep.Fields
import Derived.ChangeSame
import Derived.OpenShut
import Derived.SizedLaws
namespace Go.Proofs.YtdlnabjledhiiaaDoor
open Go.RowKit Go.ChangeShapes Go.WideShapes Go.Deep
set_option linter.unusedVariables false

/-- A struct's fields: their types and offsets. -/
def structOf (P : Program) (t : TypeId) : Option (List (TypeId × Nat)) :=
  match P.underlying t with
  | some (.struct fs) => some (fs.toList.map fun f => (f.type, f.offset))
  | _ => none
section
variable {H : Type} {enc : TypeId × Value → H} {P : Program} {w : World} {base : Nat} {spare : Nat → Bool} {held : Bool}
theorem trod_field {t : TypeId} {l : List (TypeId × Nat)} {fuel : Nat} {cs : List Value} {x : DataW H × List MemPlace} (hs : structOf P t = some l) (h : DataW.trod enc P w base spare held fuel t cs = some x) :
    cs.length = P.cellsOf t ∧ ∀ (i : Nat) (ti : TypeId) (oi : Nat), l[i]? = some (ti, oi) → ∃ n y, DataW.trod enc P w base spare held n ti ((cs.drop oi).take (P.cellsOf ti)) = some y := by
  unfold structOf at hs
  split at hs
  · rename_i fs hu
    obtain ⟨xs, n, _, _, hl, hlen, hf⟩ := DataW.trod_struct hu h
    cases hs
    refine ⟨hl, fun i ti oi hi => ?_⟩
    rw [List.getElem?_map] at hi
    cases hfi : fs.toList[i]? with
    | none => rw [hfi] at hi; cases hi
    | some f =>
      rw [hfi] at hi
      simp at hi
      obtain ⟨rfl, rfl⟩ := hi
      have hfa : fs[i]? = some f := by simpa using hfi
      have h1 := hf i f hfa
      have hlt : i < xs.length := by rw [hlen]; exact (Array.getElem?_eq_some_iff.1 hfa).1
      rw [List.getElem?_eq_getElem hlt] at h1
      exact ⟨n, _, h1⟩
  · cases hs
end
theorem one_of {l : List Value} {i : Nat} (h : i < l.length) : (l.drop i).take 1 = [l[i]] := by
  rw [List.drop_eq_getElem_cons h]; rfl
theorem spot_none {w : World} {a : Addr} {v : Value} (h : w.cell? a = some v) : a = ⟨a.block, a.off, none⟩ := by
  obtain ⟨b, o, s⟩ := a
  cases s with
  | none => rfl
  | some x =>
    unfold World.cell? at h
    split at h <;> simp at h
theorem add_plain (b o n : Nat) : (⟨b, o, none⟩ : Addr).add n = ⟨b, o + n, none⟩ := by
  unfold Addr.add; split
  · rename_i h; subst h; rfl
  · rfl
theorem opStruct : structOf Tryd.prog 32 = some [(3, 0), (3, 1), (9, 2)] := by kernel_rfl
theorem opCells : Tryd.prog.cellsOf 32 = 3 := by kernel_rfl

theorem open_ops {H : Type} {enc : TypeId × Value → H} {w : World} {base : Nat} {spare : Nat → Bool} {held : Bool} {a : Option Addr} {len cap : Nat} {x : DataW H} {p : List MemPlace}
    (h : DataW.Trod enc Tryd.prog w base spare held 22 (.slice a len cap) x p) : (len = 0 ∨ ∃ el sp, x = .slice el sp ∧ el.length = len) ∧ ∃ d : List DOp, OpsSl w a len d ∧ len ≤ cap ∧ cap ≤ maxLen ∧ (a = none → cap = 0) ∧ ∀ o ∈ d, o.wf := by
  obtain ⟨fuel, hf⟩ := h
  rcases open_slice Tryd.underlying22 hf with ⟨hcs, _⟩ | ⟨ad, l, c, m, n, D, Pl, hcs, _, hl, hm, hmm, hx, hi⟩
  · simp [Value.cells] at hcs
    obtain ⟨rfl, rfl, rfl⟩ := hcs
    refine ⟨.inl rfl, ?_⟩
    exact ⟨[], ⟨rfl, .inl rfl⟩, Nat.le_refl _, Nat.zero_le _, fun _ => rfl, fun o ho => by cases ho⟩
  · simp [Value.cells] at hcs
    obtain ⟨rfl, rfl, rfl⟩ := hcs
    refine ⟨.inr ⟨_, _, (Prod.mk.inj hx).1, by simp⟩, ?_⟩
    have hlm : len ≤ m := by rw [hmm]; split <;> omega
    have each : ∀ i, i < len → ∃ o : DOp, (w.cell? (ad.add (i * 3)) = some (.int .i64 o.f) ∧ w.cell? ((ad.add (i * 3)).add 1) = some (.int .i64 o.l) ∧ w.cell? ((ad.add (i * 3)).add 2) = some (.string o.t)) ∧ o.wf := by
      intro i hil
      obtain ⟨cs', h1, h2⟩ := hi i (by omega)
      rw [opCells] at h1
      obtain ⟨_, hln, hat⟩ := World.cells?_some h1
      obtain ⟨_, hfs⟩ := trod_field opStruct h2
      obtain ⟨n0, y0, t0⟩ := hfs 0 _ _ rfl
      obtain ⟨n1, y1, t1⟩ := hfs 1 _ _ rfl
      obtain ⟨n2, y2, t2⟩ := hfs 2 _ _ rfl
      rw [show Tryd.prog.cellsOf 3 = 1 from by kernel_rfl, one_of (by omega)] at t0 t1
      rw [show Tryd.prog.cellsOf 9 = 1 from by kernel_rfl, one_of (by omega)] at t2
      obtain ⟨f, e0, _, w0⟩ := DataW.trod_int Tryd.underlying3 t0
      obtain ⟨g, e1, _, w1⟩ := DataW.trod_int Tryd.underlying3 t1
      obtain ⟨s, e2, _, w2⟩ := DataW.trod_string Tryd.underlying9 t2
      simp only [List.cons.injEq, and_true] at e0 e1 e2
      refine ⟨⟨f, g, s⟩, ⟨?_, ?_, ?_⟩, bounds_i64 w0, bounds_i64 w1, w2⟩
      · have := hat 0 (by omega); rw [List.getElem?_eq_getElem (by omega), e0] at this; simpa [Addr.add] using this
      · have := hat 1 (by omega); rw [List.getElem?_eq_getElem (by omega), e1] at this; exact this
      · have := hat 2 (by omega); rw [List.getElem?_eq_getElem (by omega), e2] at this; exact this
    clear hi
    by_cases h0 : len = 0
    · subst h0
      exact ⟨[], ⟨rfl, .inl rfl⟩, hl, hm, (fun e => by cases e), fun o ho => by cases ho⟩
    · obtain ⟨b, off, rfl⟩ : ∃ b off, ad = ⟨b, off, none⟩ := by
        obtain ⟨o, ⟨h1, _⟩, _⟩ := each 0 (by omega)
        have hsp := spot_none h1
        rw [Nat.zero_mul] at hsp
        exact ⟨ad.block, ad.off, by simpa [Addr.add] using hsp⟩
      obtain ⟨pick, hpick⟩ : ∃ pick : (i : Nat) → i < len → DOp, ∀ i (hi : i < len), (w.cell? ((⟨b, off, none⟩ : Addr).add (i * 3)) = some (.int .i64 (pick i hi).f) ∧ w.cell? (((⟨b, off, none⟩ : Addr).add (i * 3)).add 1) = some (.int .i64 (pick i hi).l) ∧ w.cell? (((⟨b, off, none⟩ : Addr).add (i * 3)).add 2) = some (.string (pick i hi).t)) ∧ (pick i hi).wf :=
        ⟨fun i hi => Classical.choose (each i hi), fun i hi => Classical.choose_spec (each i hi)⟩
      refine ⟨List.ofFn fun i : Fin len => pick i.1 i.2, ⟨by simp, .inr ⟨b, off, rfl, fun i hi => ?_⟩⟩, hl, hm, (fun e => by cases e), fun o ho => ?_⟩
      · have hil : i < len := by simpa using hi
        have h3 := (hpick i hil).1
        simp only [add_plain] at h3
        simp only [List.getElem_ofFn]
        exact h3
      · obtain ⟨i, hi, rfl⟩ := List.getElem_of_mem ho
        simp only [List.getElem_ofFn]
        exact (hpick i (by simpa using hi)).2

theorem sized_ops {H : Type} {ts : List TypeId} {ds : List (DataW H)} {x : DataW H} {len : Nat} (hs : (DataW.weightsEach Tryd.prog ts ds).all (· ≤ reachBytes) = true) (h : len = 0 ∨ ∃ el sp, x = .slice el sp ∧ el.length = len) (j : Nat)
    (ht : ts[j]? = some 22) (hd : ds[j]? = some x) : len ≤ 4398046511104 := by
  rcases h with h | ⟨el, sp, rfl, hl⟩
  · omega
  · have h1 := sized_slice hs ht hd Tryd.underlying22
    rw [show Tryd.prog.bytesOf 32 = 32 from by kernel_rfl] at h1
    have h2 := reachBytes_lt
    omega
end Go.Proofs.YtdlnabjledhiiaaDoor

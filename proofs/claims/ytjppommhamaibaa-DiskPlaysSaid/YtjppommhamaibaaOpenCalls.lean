/-
  A parameter that is a slice of Calls of the Disk laws: what it holds; without a condition but for the reach.
-/
import Derived.Test.YtjppommhamaibaaDkCe
namespace Go.Proofs.Ytjppommhamaibaa
open Go.RowKit Go.ChangeShapes Go.WideShapes Go.Deep Go.Joins
set_option linter.unusedVariables false

/-- A Call. -/
structure Lc where
  what : Int
  nm : ByteArray
  more : ByteArray
  num : Int
instance : Inhabited Lc := ⟨⟨0, ⟨#[]⟩, ⟨#[]⟩, 0⟩⟩
def lcE : Enc Lc where
  k := 4
  enc o := [.int .i64 o.what, .string o.nm, .string o.more, .int .i64 o.num]
  len _ := rfl
  one o u hu := by
    simp at hu
    rcases hu with rfl | rfl | rfl | rfl <;> rfl
  pos := by decide
def Lc.ok (o : Lc) : Prop := o.nm.size ≤ maxLen ∧ o.more.size ≤ maxLen ∧ -9223372036854775808 ≤ o.num ∧ o.num ≤ 9223372036854775807
theorem lc_at {w : World} {a : Option Addr} {n : Nat} {l : List Lc} (h : lcE.Sl w a n l) (hn : 0 < n) : ∃ b off, a = some ⟨b, off, none⟩ ∧ ∀ (i : Nat) (hi : i < l.length), w.cell? ⟨b, off + i * 4, none⟩ = some (.int .i64 l[i].what) ∧ w.cell? ⟨b, off + i * 4 + 1, none⟩ = some (.string l[i].nm) ∧ w.cell? ⟨b, off + i * 4 + 2, none⟩ = some (.string l[i].more) ∧ w.cell? ⟨b, off + i * 4 + 3, none⟩ = some (.int .i64 l[i].num) := by
  rcases h.2 with rfl | ⟨b, off, ha, hc⟩
  · have := h.1; simp at this; omega
  · exact ⟨b, off, ha, fun i hi => ⟨hc i hi 0 _ rfl, hc i hi 1 _ rfl, hc i hi 2 _ rfl, hc i hi 3 _ rfl⟩⟩
theorem read_lc {H : Type} {enc : TypeId × Value → H} {w : World} {base : Nat} {spare : Nat → Bool} {held : Bool} (n : Nat) (cs : List Value) (y : DataW H × List MemPlace)
    (h : DataW.trod enc Try.prog w base spare held n 44 cs = some y) (hl : cs.length = lcE.k) (hs : Small Try.prog 44 y.1) : ∃ x, cs = lcE.enc x ∧ x.ok := by
  obtain ⟨y0, y1, y2, y3, n, rfl, _, t0, t1, t2, t3⟩ := trod_struct4 Try.underlying44 h
  have hl : cs.length = 4 := hl
  dsimp only at t0 t1 t2 t3
  rw [cellsInt, one_of (by omega)] at t0 t3
  rw [cellsStr, one_of (by omega)] at t1 t2
  obtain ⟨m0, e0, _, w0⟩ := DataW.trod_int Try.underlying3 t0
  obtain ⟨s1, e1, rfl, _⟩ := DataW.trod_string Try.underlying9 t1
  obtain ⟨s2, e2, rfl, _⟩ := DataW.trod_string Try.underlying9 t2
  obtain ⟨m3, e3, _, w3⟩ := DataW.trod_int Try.underlying3 t3
  have z1 := small_str (small_agg Try.underlying44 hs 1 rfl rfl)
  have z2 := small_str (small_agg Try.underlying44 hs 2 rfl rfl)
  simp only [List.cons.injEq, and_true] at e0 e1 e2 e3
  refine ⟨⟨m0, s1, s2, m3⟩, ?_, ?_⟩
  · match cs, hl with
    | [c0, c1, c2, c3], _ => simp at e0 e1 e2 e3; subst e0 e1 e2 e3; rfl
  · exact ⟨by show s1.size ≤ _; unfold maxLen; omega, by show s2.size ≤ _; unfold maxLen; omega, bounds_i64 w3⟩
theorem open_dcalls {H : Type} {enc : TypeId × Value → H} {w : World} {base b0 : Nat} {spare : Nat → Bool} {held : Bool} {r : Reach} {v : Value} {x : DataW H} {p : List MemPlace}
    (hv : Value.okWide Try.prog w r b0 51 v) (h : DataW.Trod enc Try.prog w base spare held 51 v x p) (hs : Small Try.prog 51 x) : ∃ a n c z, v = .slice a n c ∧ lcE.Sl w a n z ∧ (∀ o ∈ z, o.ok) ∧ n ≤ 3000000000000 := by
  obtain ⟨a, n, c, rfl⟩ := okWide_slice Try.underlying51 hv
  obtain ⟨fuel, hf⟩ := h
  obtain ⟨hb, l, h1, h2, h3, h4, h5⟩ := open_rows_small lcE Lc.ok Try.underlying51 (by kernel_rfl) read_lc hf hs
  rw [show Try.prog.bytesOf 44 = 48 from by kernel_rfl] at hb
  have := reachBytes_lt
  exact ⟨a, n, c, l, rfl, h1, h5, by omega⟩
end Go.Proofs.Ytjppommhamaibaa

/-
  A parameter that is a slice of numbers, opened with its size; without a condition but for the reach.
-/
import Derived.Test.YtjppommhamaibaaDk
import Derived.Test.YtjppommhamaibaaSl
namespace Go.Proofs.Ytjppommhamaibaa
open Go.RowKit Go.ChangeShapes Go.WideShapes Go.Deep Go.Joins
set_option linter.unusedVariables false

def intE : Enc Int where
  k := 1
  enc n := [.int .i64 n]
  len _ := rfl
  one n u hu := by simp at hu; subst hu; rfl
  pos := by decide
theorem intE_sl {w : World} {a : Option Addr} {n : Nat} {z : List Int} (h : intE.Sl w a n z) : SlAt w a n (i64s z) := by
  refine ⟨by rw [i64s_length]; exact h.1, ?_⟩
  rcases h.2 with rfl | ⟨b, off, ha, hc⟩
  · exact .inl rfl
  · refine .inr ⟨b, off, ha, fun i hi => ?_⟩
    have hi' : i < z.length := by rwa [i64s_length] at hi
    have h1 := hc i hi' 0 (.int .i64 z[i]) rfl
    have e : off + i * intE.k + 0 = off + i := by show off + i * 1 + 0 = off + i; omega
    rw [e] at h1
    rw [h1]
    simp [i64s]
theorem read_int {H : Type} {enc : TypeId × Value → H} {w : World} {base : Nat} {spare : Nat → Bool} {held : Bool} (n : Nat) (cs : List Value) (y : DataW H × List MemPlace)
    (h : DataW.trod enc Try.prog w base spare held n 3 cs = some y) (hl : cs.length = intE.k) (hs : Small Try.prog 3 y.1) : ∃ x, cs = intE.enc x ∧ True := by
  obtain ⟨m, e, _, _⟩ := DataW.trod_int Try.underlying3 h
  subst e
  exact ⟨m, rfl, trivial⟩
theorem open_intsS {H : Type} {enc : TypeId × Value → H} {w : World} {base b0 : Nat} {spare : Nat → Bool} {held : Bool} {r : Reach} {v : Value} {x : DataW H} {p : List MemPlace}
    (hv : Value.okWide Try.prog w r b0 25 v) (h : DataW.Trod enc Try.prog w base spare held 25 v x p) (hs : Small Try.prog 25 x) : ∃ a n c z, v = .slice a n c ∧ SlAt w a n (i64s z) ∧ n ≤ 100000000000000 := by
  obtain ⟨a, n, c, rfl⟩ := okWide_slice Try.underlying25 hv
  obtain ⟨fuel, hf⟩ := h
  obtain ⟨hb, l, h1, h2, h3, h4, h5⟩ := open_rows_small intE (fun _ => True) Try.underlying25 (by kernel_rfl) read_int hf hs
  rw [show Try.prog.bytesOf 3 = 8 from by kernel_rfl] at hb
  have := reachBytes_lt
  exact ⟨a, n, c, l, rfl, intE_sl h1, by omega⟩
end Go.Proofs.Ytjppommhamaibaa

/-
  A parameter that is a Call of the Disk laws: what it holds; and the walk of DiskCalls, told of one.
-/
import Derived.Test.YtjppommhamaibaaDkCallsWalk
namespace Go.Proofs.Ytjppommhamaibaa
open Go.RowKit Go.ChangeShapes Go.WideShapes Go.Deep Go.Joins
set_option linter.unusedVariables false

theorem open_dcall {H : Type} {enc : TypeId × Value → H} {w : World} {base b0 : Nat} {spare : Nat → Bool} {held : Bool} {r : Reach} {v : Value} {x : DataW H} {p : List MemPlace}
    (hv : Value.okWide Try.prog w r b0 44 v) (h : DataW.Trod enc Try.prog w base spare held 44 v x p) (hs : Small Try.prog 44 x) : ∃ what nm more N, v = lcV what nm more N ∧ nm.size ≤ maxLen := by
  obtain ⟨v0, v1, v2, v3, y0, y1, y2, y3, m, rfl, rfl, rfl, t0, t1, t2, t3⟩ := open_agg4 Try.underlying44 (by kernel_rfl) (by kernel_rfl) hv h
  dsimp only at t0 t1 t2 t3
  obtain ⟨m0, e0, _, w0⟩ := DataW.trod_int Try.underlying3 t0
  obtain ⟨s1, e1, hy1, _⟩ := DataW.trod_string Try.underlying9 t1
  obtain ⟨s2, e2, _, _⟩ := DataW.trod_string Try.underlying9 t2
  obtain ⟨m3, e3, _, w3⟩ := DataW.trod_int Try.underlying3 t3
  simp only [List.cons.injEq, and_true] at e0 e1 e2 e3
  have hs1 := small_agg Try.underlying44 hs 1 rfl rfl
  rw [hy1] at hs1
  have z1 := small_str hs1
  subst e0 e1 e2 e3
  exact ⟨m0, s1, s2, m3, rfl, by unfold maxLen; omega⟩
theorem diskCalls_walk (a : Option Addr) (n c : Nat) (d : Dk) (what : Int) (nm more : ByteArray) (N : Int) (w : World) (h : DkAt w a n c d) (hs : nm.size ≤ maxLen) :
    Calls Try.prog 5 #[d.val a n c, lcV what nm more N] w fun e w' => e = .returned (.bool true) ∧ Below w.heap.size w w' := calls_any a n c d what nm more N w h hs
end Go.Proofs.Ytjppommhamaibaa

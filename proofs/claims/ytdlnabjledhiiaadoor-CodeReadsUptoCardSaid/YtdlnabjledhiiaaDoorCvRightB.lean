/-
  The walk of the closure of code.Right where it is far.
-/
import Derived.Test.YtdlnabjledhiiaaDoorCvRightA
namespace Go.Proofs.YtdlnabjledhiiaaDoor
open Go.RowKit
set_option linter.unusedVariables false

set_option maxRecDepth 20000 in
set_option maxHeartbeats 4000000 in
theorem right1_far (B : Nat) (k n : Int) (s : ByteArray) (a : Option Addr) (c : Nat) (l : List V) (deep : Nat) (st : RS) (w : World) (h : RtAt w B st) (hB : B + 3 < w.heap.size) (hm : st.many ≤ 4611686018427387904) (hf : 4000 < st.many + 1) :
    Calls Tryd.prog 51 #[.agg #[.int .i64 k, .int .i64 n, .string s, .slice a l.length c], .int .i64 (deep : Int), .pointer (some ⟨B, 0, none⟩), .pointer (some ⟨B + 1, 0, none⟩), .pointer (some ⟨B + 2, 0, none⟩), .pointer (some ⟨B + 3, 0, none⟩)] w
      (RPost B ⟨st.many + 1, max st.deepest deep, st.ok⟩ w) := by
  have hmi : (st.many : Int) ≤ 4611686018427387904 := by omega
  have hfi : (4000 : Int) < (st.many : Int) + 1 := by omega
  have H := Lib.hid h
  have h2 := h.kept (World.grownBy_alloc w (.cells #[.int .i64 k, .int .i64 n, .string s, .slice a l.length c] 42) none) (fun i e => by cases e)
  have m0 := h2.m.cell
  have m1 := h2.m.frozen
  have d0 := h2.d.cell
  have d1 := h2.d.frozen
  have HR0 := Lib.hid h2
  clear h h2
  go_enter Tryd.func51, Tryd.ntmps51
  go_wp2_with fail
  go_end0
  refine ⟨rfl, ⟨?_, ?_, ?_, ?_⟩, (((Wrote.refl B w).grown (World.grownBy_alloc w _ none) (fun i e => by cases e)).grown (grown_setCell _ B 0 _) (fun i e => by cases e; omega)).grown (grown_setCell _ (B + 1) 0 _) (fun i e => by cases e; omega)⟩
  · show Boxed _ B 3 (.int .i64 ((st.many + 1 : Nat) : Int))
    rw [Int.natCast_add]
    exact (HR0.out.m.set _).kept (grown_setCell _ (B + 1) 0 _) (by simp)
  · show Boxed _ (B + 1) 3 (.int .i64 ((max st.deepest deep : Nat) : Int))
    rw [show ((max st.deepest deep : Nat) : Int) = max (st.deepest : Int) (deep : Int) by omega]
    exact (HR0.out.d.kept (grown_setCell _ B 0 _) (by simp)).set _
  · exact (HR0.out.o.kept (grown_setCell _ B 0 _) (by simp)).kept (grown_setCell _ (B + 1) 0 _) (by simp)
  · exact (HR0.out.f.kept (grown_setCell _ B 0 _) (by simp)).kept (grown_setCell _ (B + 1) 0 _) (by simp)
end Go.Proofs.YtdlnabjledhiiaaDoor

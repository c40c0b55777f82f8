/-
  A region of delta.Parse that draws its order (an op read out of a list, appended); without a condition. (Written by wip/mkparse.py.)
-/
import Derived.Test.YtdlnabjledhiiaaDoorRegs
import Derived.Test.YtdlnabjledhiiaaDoorOpsRow
import Derived.Test.YtdlnabjledhiiaaDoorCvValue
namespace Go.Proofs.YtdlnabjledhiiaaDoor
open Go.RowKit
set_option linter.unusedVariables false

theorem opsSl_one (w : World) (o : DOp) (T : TypeId) : OpsSl (w.alloc (.cells #[.int .i64 o.f, .int .i64 o.l, .string o.t] T)) (some ⟨w.heap.size, 0, none⟩) 1 [o] := by
  have hb : (w.alloc (.cells #[.int .i64 o.f, .int .i64 o.l, .string o.t] T)).heap[w.heap.size]? = some (.cells #[.int .i64 o.f, .int .i64 o.l, .string o.t] T (0, 0)) := heap_alloc_new w _
  refine ⟨rfl, .inr ⟨w.heap.size, 0, rfl, fun i hi => ?_⟩⟩
  have hi0 : i = 0 := by simpa using hi
  subst hi0
  exact ⟨(Lib.cell_of_heap hb _).trans rfl, (Lib.cell_of_heap hb _).trans rfl, (Lib.cell_of_heap hb _).trans rfl⟩
/-- What each operation of the region yields. -/
def dprT (B9 b0 o0 N vc yc : Nat) (va : Option Addr) (v0 v1 : Int) (w1 : World) : Nat → Value → World → Prop
  | 0, v, w => v = .slice va N vc
  | 1, v, w => v = .pointer (some ⟨B9, 3, none⟩)
  | 2, v, w => v = .slice (some ⟨b0, o0, none⟩) 2 yc
  | 3, v, w => v = .pointer (some ⟨b0, o0, none⟩)
  | 4, v, w => v = .pointer (some ⟨b0, o0 + 1, none⟩)
  | 5, v, w => v = .int .i64 v0
  | 6, v, w => v = .pointer (some ⟨B9, 3, none⟩)
  | 7, v, w => v = .slice (some ⟨b0, o0, none⟩) 2 yc
  | 8, v, w => v = .pointer (some ⟨b0, o0 + 4, none⟩)
  | 9, v, w => v = .pointer (some ⟨b0, o0 + 4 + 1, none⟩)
  | 10, v, w => v = .int .i64 v1
  | 11, v, w => v = .agg #[.int .i64 v0, .int .i64 v1, .string ⟨#[]⟩]
  | 12, v, w => ∃ b, v = .slice (some ⟨b, 0, none⟩) 1 1 ∧ OpsSl w (some ⟨b, 0, none⟩) 1 [⟨v0, v1, ⟨#[]⟩⟩]
  | _, _, _ => True
def dprD : Nat → List Nat
  | _ => []
theorem dpr_keep (B9 b0 o0 N vc yc : Nat) (va : Option Addr) (v0 v1 : Int) (w1 : World) : ∀ (j : Nat) (u : Value) (w w' : World), Below w.heap.size w w' → (dprT B9 b0 o0 N vc yc va v0 v1 w1) j u w → (dprT B9 b0 o0 N vc yc va v0 v1 w1) j u w'
  | 12, u, w, w', hb, h => by obtain ⟨b, rfl, h2⟩ := h; exact ⟨b, rfl, h2.keep hb⟩
  | 0, u, w, w', hb, h => h
  | 1, u, w, w', hb, h => h
  | 2, u, w, w', hb, h => h
  | 3, u, w, w', hb, h => h
  | 4, u, w, w', hb, h => h
  | 5, u, w, w', hb, h => h
  | 6, u, w, w', hb, h => h
  | 7, u, w, w', hb, h => h
  | 8, u, w, w', hb, h => h
  | 9, u, w, w', hb, h => h
  | 10, u, w, w', hb, h => h
  | 11, u, w, w', hb, h => h
  | _ + 13, u, w, w', hb, h => trivial
theorem dpr_free (B9 b0 o0 N vc yc : Nat) (va : Option Addr) (v0 v1 : Int) (w1 : World) : ∀ (j : Nat) (u : Value) (w w' : World), [12].contains j = false → (dprT B9 b0 o0 N vc yc va v0 v1 w1) j u w → (dprT B9 b0 o0 N vc yc va v0 v1 w1) j u w'
  | 12, u, w, w', hb, h => by cases hb
  | 0, u, w, w', hb, h => h
  | 1, u, w, w', hb, h => h
  | 2, u, w, w', hb, h => h
  | 3, u, w, w', hb, h => h
  | 4, u, w, w', hb, h => h
  | 5, u, w, w', hb, h => h
  | 6, u, w, w', hb, h => h
  | 7, u, w, w', hb, h => h
  | 8, u, w, w', hb, h => h
  | 9, u, w, w', hb, h => h
  | 10, u, w, w', hb, h => h
  | 11, u, w, w', hb, h => h
  | _ + 13, u, w, w', hb, h => trivial
set_option maxHeartbeats 4000000 in
theorem dpr_steps (B9 b0 o0 N vc yc : Nat) (va : Option Addr) (v0 v1 : Int) (w1 : World) (c9 : w1.cell? ⟨B9, 3, none⟩ = some (.slice (some ⟨b0, o0, none⟩) 2 yc)) (h9 : B9 < w1.heap.size) (c0 : w1.cell? ⟨b0, o0 + 1, none⟩ = some (.int .i64 v0)) (c1 : w1.cell? ⟨b0, o0 + 4 + 1, none⟩ = some (.int .i64 v1)) (hb0 : b0 < w1.heap.size) {a : Act} (hs : a.tmps.size = 92) (b7 : a.eval (.tmp 7) = .slice va N vc) (b9 : a.eval (.tmp 9) = .pointer (some ⟨B9, 0, none⟩)) : ∀ i o, i < 13 → (regOf Tryd.f10 14)[i]? = some o → StepOkT Tryd.prog (regOf Tryd.f10 14) 13 a (fun w => Below w1.heap.size w1 w) (dprT B9 b0 o0 N vc yc va v0 v1 w1) dprD i o := by
  have hz : ∀ t, Nat.blt t 92 = true → Nat.blt t a.tmps.size = true := fun t h => by rw [hs]; exact h
  have hsz : (regOf Tryd.f10 14).size = 15 := by kernel_rfl
  intro i o hii ho
  match i, hii with
  | 0, _ =>
    have ho1 := opIs ho (p := .move (.tmp 7)) (by kernel_rfl)
    have hg := guardIs ho (p := none) (by kernel_rfl)
    intro e A w hA hC hp hnT K hk
    have x7 : A.eval (.tmp 7) = .slice va N vc := filled_base2 hA (by kernel_rfl) (hnT 14 (by decide)) b7
    have hw : Region.wanted o (yielded (regOf Tryd.f10 14) A.tmps) = true := wanted_free hg
    exact step_pure hk hC hw (run_move ho1 x7 w) rfl
  | 1, _ =>
    have ho1 := opIs ho (p := .fieldAddr 42 (.tmp 9) 3) (by kernel_rfl)
    have hg := guardIs ho (p := none) (by kernel_rfl)
    intro e A w hA hC hp hnT K hk
    have x9 : A.eval (.tmp 9) = .pointer (some ⟨B9, 0, none⟩) := filled_base hA (by kernel_rfl) b9
    have hw : Region.wanted o (yielded (regOf Tryd.f10 14) A.tmps) = true := wanted_free hg
    refine step_pure (v := .pointer (some ⟨B9, 3, none⟩)) hk hC hw ?_ rfl
    unfold execOp
    simp only [ho1]
    generalize A.eval = ρ at x9 ⊢
    simp [go_sem, x9]
  | 2, _ =>
    have ho1 := opIs ho (p := .load 40 (.tmp 74)) (by kernel_rfl)
    have hg := guardIs ho (p := none) (by kernel_rfl)
    intro e A w hA hC hp hnT K hk
    have x74 : A.eval (.tmp 74) = .pointer (some ⟨B9, 3, none⟩) := op_tmp hA hp 74 1 (by kernel_rfl) (by kernel_rfl) (by kernel_rfl) (hz _ rfl)
    have hw : Region.wanted o (yielded (regOf Tryd.f10 14) A.tmps) = true := wanted_free hg
    refine step_pure (v := .slice (some ⟨b0, o0, none⟩) 2 yc) hk hC hw ?_ rfl
    unfold execOp
    simp only [ho1]
    have e1 : w.cell? ⟨B9, 3, none⟩ = some (.slice (some ⟨b0, o0, none⟩) 2 yc) := (World.cell?_of_block (hC.block _ h9)).trans c9
    generalize A.eval = ρ at x74 ⊢
    simp [go_sem, x74, e1]
  | 3, _ =>
    have ho1 := opIs ho (p := .indexAddr 40 (.tmp 75) (.const (.int .i64 0))) (by kernel_rfl)
    have hg := guardIs ho (p := none) (by kernel_rfl)
    intro e A w hA hC hp hnT K hk
    have x75 : A.eval (.tmp 75) = .slice (some ⟨b0, o0, none⟩) 2 yc := op_tmp hA hp 75 2 (by kernel_rfl) (by kernel_rfl) (by kernel_rfl) (hz _ rfl)
    have hw : Region.wanted o (yielded (regOf Tryd.f10 14) A.tmps) = true := wanted_free hg
    refine step_pure (v := .pointer (some ⟨b0, o0, none⟩)) hk hC hw ?_ rfl
    unfold execOp
    simp only [ho1]
    have xc : ∀ v, A.eval (.const v) = v := fun _ => rfl
    generalize A.eval = ρ at x75 xc ⊢
    simp [go_sem, x75, xc]
  | 4, _ =>
    have ho1 := opIs ho (p := .fieldAddr 42 (.tmp 76) 1) (by kernel_rfl)
    have hg := guardIs ho (p := none) (by kernel_rfl)
    intro e A w hA hC hp hnT K hk
    have x76 : A.eval (.tmp 76) = .pointer (some ⟨b0, o0, none⟩) := op_tmp hA hp 76 3 (by kernel_rfl) (by kernel_rfl) (by kernel_rfl) (hz _ rfl)
    have hw : Region.wanted o (yielded (regOf Tryd.f10 14) A.tmps) = true := wanted_free hg
    refine step_pure (v := .pointer (some ⟨b0, o0 + 1, none⟩)) hk hC hw ?_ rfl
    unfold execOp
    simp only [ho1]
    generalize A.eval = ρ at x76 ⊢
    simp [go_sem, x76]
  | 5, _ =>
    have ho1 := opIs ho (p := .load 2 (.tmp 77)) (by kernel_rfl)
    have hg := guardIs ho (p := none) (by kernel_rfl)
    intro e A w hA hC hp hnT K hk
    have x77 : A.eval (.tmp 77) = .pointer (some ⟨b0, o0 + 1, none⟩) := op_tmp hA hp 77 4 (by kernel_rfl) (by kernel_rfl) (by kernel_rfl) (hz _ rfl)
    have hw : Region.wanted o (yielded (regOf Tryd.f10 14) A.tmps) = true := wanted_free hg
    refine step_pure (v := .int .i64 v0) hk hC hw ?_ rfl
    unfold execOp
    simp only [ho1]
    have e1 : w.cell? ⟨b0, o0 + 1, none⟩ = some (.int .i64 v0) := (World.cell?_of_block (hC.block _ hb0)).trans c0
    generalize A.eval = ρ at x77 ⊢
    simp [go_sem, x77, e1]
  | 6, _ =>
    have ho1 := opIs ho (p := .fieldAddr 42 (.tmp 9) 3) (by kernel_rfl)
    have hg := guardIs ho (p := none) (by kernel_rfl)
    intro e A w hA hC hp hnT K hk
    have x9 : A.eval (.tmp 9) = .pointer (some ⟨B9, 0, none⟩) := filled_base hA (by kernel_rfl) b9
    have hw : Region.wanted o (yielded (regOf Tryd.f10 14) A.tmps) = true := wanted_free hg
    refine step_pure (v := .pointer (some ⟨B9, 3, none⟩)) hk hC hw ?_ rfl
    unfold execOp
    simp only [ho1]
    generalize A.eval = ρ at x9 ⊢
    simp [go_sem, x9]
  | 7, _ =>
    have ho1 := opIs ho (p := .load 40 (.tmp 79)) (by kernel_rfl)
    have hg := guardIs ho (p := none) (by kernel_rfl)
    intro e A w hA hC hp hnT K hk
    have x79 : A.eval (.tmp 79) = .pointer (some ⟨B9, 3, none⟩) := op_tmp hA hp 79 6 (by kernel_rfl) (by kernel_rfl) (by kernel_rfl) (hz _ rfl)
    have hw : Region.wanted o (yielded (regOf Tryd.f10 14) A.tmps) = true := wanted_free hg
    refine step_pure (v := .slice (some ⟨b0, o0, none⟩) 2 yc) hk hC hw ?_ rfl
    unfold execOp
    simp only [ho1]
    have e1 : w.cell? ⟨B9, 3, none⟩ = some (.slice (some ⟨b0, o0, none⟩) 2 yc) := (World.cell?_of_block (hC.block _ h9)).trans c9
    generalize A.eval = ρ at x79 ⊢
    simp [go_sem, x79, e1]
  | 8, _ =>
    have ho1 := opIs ho (p := .indexAddr 40 (.tmp 80) (.const (.int .i64 1))) (by kernel_rfl)
    have hg := guardIs ho (p := none) (by kernel_rfl)
    intro e A w hA hC hp hnT K hk
    have x80 : A.eval (.tmp 80) = .slice (some ⟨b0, o0, none⟩) 2 yc := op_tmp hA hp 80 7 (by kernel_rfl) (by kernel_rfl) (by kernel_rfl) (hz _ rfl)
    have hw : Region.wanted o (yielded (regOf Tryd.f10 14) A.tmps) = true := wanted_free hg
    refine step_pure (v := .pointer (some ⟨b0, o0 + 4, none⟩)) hk hC hw ?_ rfl
    unfold execOp
    simp only [ho1]
    have xc : ∀ v, A.eval (.const v) = v := fun _ => rfl
    generalize A.eval = ρ at x80 xc ⊢
    simp [go_sem, x80, xc]
  | 9, _ =>
    have ho1 := opIs ho (p := .fieldAddr 42 (.tmp 81) 1) (by kernel_rfl)
    have hg := guardIs ho (p := none) (by kernel_rfl)
    intro e A w hA hC hp hnT K hk
    have x81 : A.eval (.tmp 81) = .pointer (some ⟨b0, o0 + 4, none⟩) := op_tmp hA hp 81 8 (by kernel_rfl) (by kernel_rfl) (by kernel_rfl) (hz _ rfl)
    have hw : Region.wanted o (yielded (regOf Tryd.f10 14) A.tmps) = true := wanted_free hg
    refine step_pure (v := .pointer (some ⟨b0, o0 + 4 + 1, none⟩)) hk hC hw ?_ rfl
    unfold execOp
    simp only [ho1]
    generalize A.eval = ρ at x81 ⊢
    simp [go_sem, x81]
  | 10, _ =>
    have ho1 := opIs ho (p := .load 2 (.tmp 82)) (by kernel_rfl)
    have hg := guardIs ho (p := none) (by kernel_rfl)
    intro e A w hA hC hp hnT K hk
    have x82 : A.eval (.tmp 82) = .pointer (some ⟨b0, o0 + 4 + 1, none⟩) := op_tmp hA hp 82 9 (by kernel_rfl) (by kernel_rfl) (by kernel_rfl) (hz _ rfl)
    have hw : Region.wanted o (yielded (regOf Tryd.f10 14) A.tmps) = true := wanted_free hg
    refine step_pure (v := .int .i64 v1) hk hC hw ?_ rfl
    unfold execOp
    simp only [ho1]
    have e1 : w.cell? ⟨b0, o0 + 4 + 1, none⟩ = some (.int .i64 v1) := (World.cell?_of_block (hC.block _ hb0)).trans c1
    generalize A.eval = ρ at x82 ⊢
    simp [go_sem, x82, e1]
  | 11, _ =>
    have ho1 := opIs ho (p := .build 32 #[(0, (.tmp 78)), (1, (.tmp 83))]) (by kernel_rfl)
    have hg := guardIs ho (p := none) (by kernel_rfl)
    intro e A w hA hC hp hnT K hk
    have x78 : A.eval (.tmp 78) = .int .i64 v0 := op_tmp hA hp 78 5 (by kernel_rfl) (by kernel_rfl) (by kernel_rfl) (hz _ rfl)
    have x83 : A.eval (.tmp 83) = .int .i64 v1 := op_tmp hA hp 83 10 (by kernel_rfl) (by kernel_rfl) (by kernel_rfl) (hz _ rfl)
    have hw : Region.wanted o (yielded (regOf Tryd.f10 14) A.tmps) = true := wanted_free hg
    refine step_pure (v := .agg #[.int .i64 v0, .int .i64 v1, .string ⟨#[]⟩]) hk hC hw ?_ rfl
    unfold execOp
    simp only [ho1]
    generalize A.eval = ρ at x78 x83 ⊢
    simp [go_sem, x78, x83]
  | 12, _ =>
    have ho1 := opIs ho (p := .buildSlice 22 1 #[(0, (.tmp 84))]) (by kernel_rfl)
    have hg := guardIs ho (p := none) (by kernel_rfl)
    intro e A w hA hC hp hnT K hk
    have x84 : A.eval (.tmp 84) = .agg #[.int .i64 v0, .int .i64 v1, .string ⟨#[]⟩] := op_tmp hA hp 84 11 (by kernel_rfl) (by kernel_rfl) (by kernel_rfl) (hz _ rfl)
    have hw : Region.wanted o (yielded (regOf Tryd.f10 14) A.tmps) = true := wanted_free hg
    refine step_value (v := .slice (some ⟨w.heap.size, 0, none⟩) 1 1) (w' := w.alloc (.cells #[.int .i64 v0, .int .i64 v1, .string ⟨#[]⟩] 32)) hk hw ?_ ?_ ?_ ?_
    · unfold execOp
      simp only [ho1]
      generalize A.eval = ρ at x84 ⊢
      simp [go_sem, x84]
    · exact ⟨w.heap.size, rfl, opsSl_one w ⟨v0, v1, ⟨#[]⟩⟩ _⟩
    · exact hC.alloc hC.size _
    · intro j u _ _ _ _ h
      exact dpr_keep B9 b0 o0 N vc yc va v0 v1 w1 j u w _ ((Below.refl _ w).alloc (Nat.le_refl _) _) h
  | _ + 13, h => exact absurd h (by omega)
end Go.Proofs.YtdlnabjledhiiaaDoor

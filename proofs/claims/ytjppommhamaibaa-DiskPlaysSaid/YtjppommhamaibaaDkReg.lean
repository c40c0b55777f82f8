/-
  A region of the reference's Crash that draws its order (a file made, appended); the texts within reach. (Written by wip/mkrcr.py.)
-/
import Derived.Test.YtjppommhamaibaaDkU
import Derived.Test.YtjppommhamaibaaRegs
namespace Go.Proofs.Ytjppommhamaibaa
open Go.RowKit
set_option linter.unusedVariables false

/-- What each operation of the region yields. -/
def rcrT (N5 N7 N vc m : Nat) (va : Option Addr) (x0 x1 x2 : ByteArray) (w1 : World) : Nat → Value → World → Prop
  | 0, v, w => v = .pointer (some ⟨N5, 1, none⟩)
  | 1, v, w => v = .slice va N vc
  | 2, v, w => v = .pointer (some ⟨N7, 0, none⟩)
  | 3, v, w => v = .string x0
  | 4, v, w => v = .pointer (some ⟨N7, 1, none⟩)
  | 5, v, w => v = .string x1
  | 6, v, w => v = .pointer (some ⟨N7, 2, none⟩)
  | 7, v, w => v = .string x2
  | 8, v, w => v = .int .i64 (m : Int)
  | 9, v, w => v = .string (x2.extract 0 m)
  | 10, v, w => v = .string (x1 ++ x2.extract 0 m)
  | 11, v, w => v = .agg #[.string x0, .string (x1 ++ x2.extract 0 m), .string ⟨#[]⟩]
  | 12, v, w => ∃ b, v = .slice (some ⟨b, 0, none⟩) 1 1 ∧ flE.Sl w (some ⟨b, 0, none⟩) 1 [⟨x0, (x1 ++ x2.extract 0 m), ⟨#[]⟩⟩]
  | _, _, _ => True
def rcrD : Nat → List Nat
  | _ => []
theorem rcr_keep (N5 N7 N vc m : Nat) (va : Option Addr) (x0 x1 x2 : ByteArray) (w1 : World) : ∀ (j : Nat) (u : Value) (w w' : World), Below w.heap.size w w' → (rcrT N5 N7 N vc m va x0 x1 x2 w1) j u w → (rcrT N5 N7 N vc m va x0 x1 x2 w1) j u w'
  | 12, u, w, w', hb, h => by obtain ⟨b, rfl, h2⟩ := h; exact ⟨b, rfl, h2.keep hb⟩
  | 0, u, w, w', hb, h => h
  | 1, u, w, w', hb, h => h
  | 2, u, w, w', hb, h => h
  | 3, u, w, w', hb, h => h
  | 4, u, w, w', hb, h => h
  | 5, u, w, w', hb, h => h
  | 6, u, w, w', hb, h => h
  | 7, u, w, w', hb, h => h
  | 8, u, w, w', hb, h => h
  | 9, u, w, w', hb, h => h
  | 10, u, w, w', hb, h => h
  | 11, u, w, w', hb, h => h
  | _ + 13, u, w, w', hb, h => trivial
theorem rcr_free (N5 N7 N vc m : Nat) (va : Option Addr) (x0 x1 x2 : ByteArray) (w1 : World) : ∀ (j : Nat) (u : Value) (w w' : World), [12].contains j = false → (rcrT N5 N7 N vc m va x0 x1 x2 w1) j u w → (rcrT N5 N7 N vc m va x0 x1 x2 w1) j u w'
  | 12, u, w, w', hb, h => by cases hb
  | 0, u, w, w', hb, h => h
  | 1, u, w, w', hb, h => h
  | 2, u, w, w', hb, h => h
  | 3, u, w, w', hb, h => h
  | 4, u, w, w', hb, h => h
  | 5, u, w, w', hb, h => h
  | 6, u, w, w', hb, h => h
  | 7, u, w, w', hb, h => h
  | 8, u, w, w', hb, h => h
  | 9, u, w, w', hb, h => h
  | 10, u, w, w', hb, h => h
  | 11, u, w, w', hb, h => h
  | _ + 13, u, w, w', hb, h => trivial
set_option maxHeartbeats 4000000 in
theorem rcr_steps (N5 N7 N vc m : Nat) (va : Option Addr) (x0 x1 x2 : ByteArray) (w1 : World) (c9 : w1.cell? ⟨N5, 1, none⟩ = some (.slice va N vc)) (h5 : N5 < w1.heap.size) (c0 : w1.cell? ⟨N7, 0, none⟩ = some (.string x0)) (c1 : w1.cell? ⟨N7, 1, none⟩ = some (.string x1)) (c2 : w1.cell? ⟨N7, 2, none⟩ = some (.string x2)) (h7 : N7 < w1.heap.size) (hm : m ≤ x2.size) (hs1 : x1.size ≤ 140737488355328) (hs2 : x2.size ≤ 140737488355328) {a : Act} (hs : a.tmps.size = 60) (b5 : a.eval (.tmp 5) = .pointer (some ⟨N5, 0, none⟩)) (b7 : a.eval (.tmp 7) = .pointer (some ⟨N7, 0, none⟩)) (b8 : a.eval (.tmp 8) = .int .i64 (m : Int)) : ∀ i o, i < 13 → (regOf Try.f16 10)[i]? = some o → StepOkT Try.prog (regOf Try.f16 10) 13 a (fun w => Below w1.heap.size w1 w) (rcrT N5 N7 N vc m va x0 x1 x2 w1) rcrD i o := by
  have hz : ∀ t, Nat.blt t 60 = true → Nat.blt t a.tmps.size = true := fun t h => by rw [hs]; exact h
  have hsz : (regOf Try.f16 10).size = 16 := by kernel_rfl
  intro i o hii ho
  match i, hii with
  | 0, _ =>
    have ho1 := opIs ho (p := .fieldAddr 24 (.tmp 5) 1) (by kernel_rfl)
    have hg := guardIs ho (p := none) (by kernel_rfl)
    intro e A w hA hC hp hnT K hk
    have x5 : A.eval (.tmp 5) = .pointer (some ⟨N5, 0, none⟩) := filled_base hA (by kernel_rfl) b5
    have hw : Region.wanted o (yielded (regOf Try.f16 10) A.tmps) = true := wanted_free hg
    refine step_pure (v := .pointer (some ⟨N5, 1, none⟩)) hk hC hw ?_ rfl
    unfold execOp
    simp only [ho1]
    generalize A.eval = ρ at x5 ⊢
    simp [go_sem, x5]
  | 1, _ =>
    have ho1 := opIs ho (p := .load 22 (.tmp 43)) (by kernel_rfl)
    have hg := guardIs ho (p := none) (by kernel_rfl)
    intro e A w hA hC hp hnT K hk
    have x43 : A.eval (.tmp 43) = .pointer (some ⟨N5, 1, none⟩) := op_tmp hA hp 43 0 (by kernel_rfl) (by kernel_rfl) (by kernel_rfl) (hz _ rfl)
    have hw : Region.wanted o (yielded (regOf Try.f16 10) A.tmps) = true := wanted_free hg
    refine step_pure (v := .slice va N vc) hk hC hw ?_ rfl
    unfold execOp
    simp only [ho1]
    have e1 : w.cell? ⟨N5, 1, none⟩ = some (.slice va N vc) := (World.cell?_of_block (hC.block _ h5)).trans c9
    generalize A.eval = ρ at x43 ⊢
    simp [go_sem, x43, e1]
  | 2, _ =>
    have ho1 := opIs ho (p := .fieldAddr 32 (.tmp 7) 0) (by kernel_rfl)
    have hg := guardIs ho (p := none) (by kernel_rfl)
    intro e A w hA hC hp hnT K hk
    have x7 : A.eval (.tmp 7) = .pointer (some ⟨N7, 0, none⟩) := filled_base hA (by kernel_rfl) b7
    have hw : Region.wanted o (yielded (regOf Try.f16 10) A.tmps) = true := wanted_free hg
    refine step_pure (v := .pointer (some ⟨N7, 0, none⟩)) hk hC hw ?_ rfl
    unfold execOp
    simp only [ho1]
    generalize A.eval = ρ at x7 ⊢
    simp [go_sem, x7]
  | 3, _ =>
    have ho1 := opIs ho (p := .load 9 (.tmp 45)) (by kernel_rfl)
    have hg := guardIs ho (p := none) (by kernel_rfl)
    intro e A w hA hC hp hnT K hk
    have x45 : A.eval (.tmp 45) = .pointer (some ⟨N7, 0, none⟩) := op_tmp hA hp 45 2 (by kernel_rfl) (by kernel_rfl) (by kernel_rfl) (hz _ rfl)
    have hw : Region.wanted o (yielded (regOf Try.f16 10) A.tmps) = true := wanted_free hg
    refine step_pure (v := .string x0) hk hC hw ?_ rfl
    unfold execOp
    simp only [ho1]
    have e1 : w.cell? ⟨N7, 0, none⟩ = some (.string x0) := (World.cell?_of_block (hC.block _ h7)).trans c0
    generalize A.eval = ρ at x45 ⊢
    simp [go_sem, x45, e1]
  | 4, _ =>
    have ho1 := opIs ho (p := .fieldAddr 32 (.tmp 7) 1) (by kernel_rfl)
    have hg := guardIs ho (p := none) (by kernel_rfl)
    intro e A w hA hC hp hnT K hk
    have x7 : A.eval (.tmp 7) = .pointer (some ⟨N7, 0, none⟩) := filled_base hA (by kernel_rfl) b7
    have hw : Region.wanted o (yielded (regOf Try.f16 10) A.tmps) = true := wanted_free hg
    refine step_pure (v := .pointer (some ⟨N7, 1, none⟩)) hk hC hw ?_ rfl
    unfold execOp
    simp only [ho1]
    generalize A.eval = ρ at x7 ⊢
    simp [go_sem, x7]
  | 5, _ =>
    have ho1 := opIs ho (p := .load 9 (.tmp 47)) (by kernel_rfl)
    have hg := guardIs ho (p := none) (by kernel_rfl)
    intro e A w hA hC hp hnT K hk
    have x47 : A.eval (.tmp 47) = .pointer (some ⟨N7, 1, none⟩) := op_tmp hA hp 47 4 (by kernel_rfl) (by kernel_rfl) (by kernel_rfl) (hz _ rfl)
    have hw : Region.wanted o (yielded (regOf Try.f16 10) A.tmps) = true := wanted_free hg
    refine step_pure (v := .string x1) hk hC hw ?_ rfl
    unfold execOp
    simp only [ho1]
    have e1 : w.cell? ⟨N7, 1, none⟩ = some (.string x1) := (World.cell?_of_block (hC.block _ h7)).trans c1
    generalize A.eval = ρ at x47 ⊢
    simp [go_sem, x47, e1]
  | 6, _ =>
    have ho1 := opIs ho (p := .fieldAddr 32 (.tmp 7) 2) (by kernel_rfl)
    have hg := guardIs ho (p := none) (by kernel_rfl)
    intro e A w hA hC hp hnT K hk
    have x7 : A.eval (.tmp 7) = .pointer (some ⟨N7, 0, none⟩) := filled_base hA (by kernel_rfl) b7
    have hw : Region.wanted o (yielded (regOf Try.f16 10) A.tmps) = true := wanted_free hg
    refine step_pure (v := .pointer (some ⟨N7, 2, none⟩)) hk hC hw ?_ rfl
    unfold execOp
    simp only [ho1]
    generalize A.eval = ρ at x7 ⊢
    simp [go_sem, x7]
  | 7, _ =>
    have ho1 := opIs ho (p := .load 9 (.tmp 49)) (by kernel_rfl)
    have hg := guardIs ho (p := none) (by kernel_rfl)
    intro e A w hA hC hp hnT K hk
    have x49 : A.eval (.tmp 49) = .pointer (some ⟨N7, 2, none⟩) := op_tmp hA hp 49 6 (by kernel_rfl) (by kernel_rfl) (by kernel_rfl) (hz _ rfl)
    have hw : Region.wanted o (yielded (regOf Try.f16 10) A.tmps) = true := wanted_free hg
    refine step_pure (v := .string x2) hk hC hw ?_ rfl
    unfold execOp
    simp only [ho1]
    have e1 : w.cell? ⟨N7, 2, none⟩ = some (.string x2) := (World.cell?_of_block (hC.block _ h7)).trans c2
    generalize A.eval = ρ at x49 ⊢
    simp [go_sem, x49, e1]
  | 8, _ =>
    have ho1 := opIs ho (p := .move (.tmp 8)) (by kernel_rfl)
    have hg := guardIs ho (p := none) (by kernel_rfl)
    intro e A w hA hC hp hnT K hk
    have x8 : A.eval (.tmp 8) = .int .i64 (m : Int) := filled_base hA (by kernel_rfl) b8
    have hw : Region.wanted o (yielded (regOf Try.f16 10) A.tmps) = true := wanted_free hg
    exact step_pure hk hC hw (run_move ho1 x8 w) rfl
  | 9, _ =>
    have ho1 := opIs ho (p := .slice 9 (.tmp 50) none (some (.tmp 51)) none) (by kernel_rfl)
    have hg := guardIs ho (p := none) (by kernel_rfl)
    intro e A w hA hC hp hnT K hk
    have x50 : A.eval (.tmp 50) = .string x2 := op_tmp hA hp 50 7 (by kernel_rfl) (by kernel_rfl) (by kernel_rfl) (hz _ rfl)
    have x51 : A.eval (.tmp 51) = .int .i64 (m : Int) := op_tmp hA hp 51 8 (by kernel_rfl) (by kernel_rfl) (by kernel_rfl) (hz _ rfl)
    have hw : Region.wanted o (yielded (regOf Try.f16 10) A.tmps) = true := wanted_free hg
    refine step_pure (v := .string (x2.extract 0 m)) hk hC hw ?_ rfl
    unfold execOp
    simp only [ho1]
    generalize A.eval = ρ at x50 x51 ⊢
    simp [go_sem, x50, x51, hm]
  | 10, _ =>
    have ho1 := opIs ho (p := .binOp .add 9 (.tmp 48) (.tmp 52) 9) (by kernel_rfl)
    have hg := guardIs ho (p := none) (by kernel_rfl)
    intro e A w hA hC hp hnT K hk
    have x48 : A.eval (.tmp 48) = .string x1 := op_tmp hA hp 48 5 (by kernel_rfl) (by kernel_rfl) (by kernel_rfl) (hz _ rfl)
    have x52 : A.eval (.tmp 52) = .string (x2.extract 0 m) := op_tmp hA hp 52 9 (by kernel_rfl) (by kernel_rfl) (by kernel_rfl) (hz _ rfl)
    have hw : Region.wanted o (yielded (regOf Try.f16 10) A.tmps) = true := wanted_free hg
    refine step_pure (v := .string (x1 ++ x2.extract 0 m)) hk hC hw ?_ rfl
    unfold execOp
    simp only [ho1]
    generalize A.eval = ρ at x48 x52 ⊢
    simp [go_sem, x48, x52, show min m x2.size = m by omega, show x1.size + m ≤ 9223372036854775807 by omega]
  | 11, _ =>
    have ho1 := opIs ho (p := .build 32 #[(0, (.tmp 46)), (1, (.tmp 53))]) (by kernel_rfl)
    have hg := guardIs ho (p := none) (by kernel_rfl)
    intro e A w hA hC hp hnT K hk
    have x46 : A.eval (.tmp 46) = .string x0 := op_tmp hA hp 46 3 (by kernel_rfl) (by kernel_rfl) (by kernel_rfl) (hz _ rfl)
    have x53 : A.eval (.tmp 53) = .string (x1 ++ x2.extract 0 m) := op_tmp hA hp 53 10 (by kernel_rfl) (by kernel_rfl) (by kernel_rfl) (hz _ rfl)
    have hw : Region.wanted o (yielded (regOf Try.f16 10) A.tmps) = true := wanted_free hg
    refine step_pure (v := .agg #[.string x0, .string (x1 ++ x2.extract 0 m), .string ⟨#[]⟩]) hk hC hw ?_ rfl
    unfold execOp
    simp only [ho1]
    generalize A.eval = ρ at x46 x53 ⊢
    simp [go_sem, x46, x53]
  | 12, _ =>
    have ho1 := opIs ho (p := .buildSlice 22 1 #[(0, (.tmp 54))]) (by kernel_rfl)
    have hg := guardIs ho (p := none) (by kernel_rfl)
    intro e A w hA hC hp hnT K hk
    have x54 : A.eval (.tmp 54) = .agg #[.string x0, .string (x1 ++ x2.extract 0 m), .string ⟨#[]⟩] := op_tmp hA hp 54 11 (by kernel_rfl) (by kernel_rfl) (by kernel_rfl) (hz _ rfl)
    have hw : Region.wanted o (yielded (regOf Try.f16 10) A.tmps) = true := wanted_free hg
    refine step_value (v := .slice (some ⟨w.heap.size, 0, none⟩) 1 1) (w' := w.alloc (.cells #[.string x0, .string (x1 ++ x2.extract 0 m), .string ⟨#[]⟩] 32)) hk hw ?_ ?_ ?_ ?_
    · unfold execOp
      simp only [ho1]
      generalize A.eval = ρ at x54 ⊢
      simp [go_sem, x54]
    · exact ⟨w.heap.size, rfl, Enc.Sl.one w _ _ _ rfl⟩
    · exact hC.alloc hC.size _
    · intro j u _ _ _ _ h
      exact rcr_keep N5 N7 N vc m va x0 x1 x2 w1 j u w _ ((Below.refl _ w).alloc (Nat.le_refl _) _) h
  | _ + 13, h => exact absurd h (by omega)
end Go.Proofs.Ytjppommhamaibaa

/-
  The drawn regions of wal.Get and of the reference's Get of states; without a condition. (Written by wip/mkwh.py.)
-/
import Derived.Test.YtboohpkmllelgaaDoorWrA
namespace Go.Proofs.YtboohpkmllelgaaDoor
open Go.RowKit
set_option linter.unusedVariables false

/-- What each operation of the region yields. -/
def wgbT (BX b of nb nc : Nat) (vn : Int) (vt : ByteArray) (vc : Nat) (m0 m1 m2 m3 : Int) (S4 : ByteArray) (ra : Option Addr) (rn rc : Nat) (va : Option Addr) (vm vcc : Nat) (w1 : World) : Nat → Value → World → Prop
  | 0, v, w => v = .slice (some ⟨nb, 0, none⟩) 4 nc
  | 1, v, w => v = .pointer (some ⟨nb, 0, none⟩)
  | 2, v, w => v = .int .i64 m0
  | 3, v, w => v = .slice (some ⟨nb, 0, none⟩) 4 nc
  | 4, v, w => v = .pointer (some ⟨nb, 1, none⟩)
  | 5, v, w => v = .int .i64 m1
  | 6, v, w => v = .slice (some ⟨nb, 0, none⟩) 4 nc
  | 7, v, w => v = .pointer (some ⟨nb, 2, none⟩)
  | 8, v, w => v = .int .i64 m2
  | 9, v, w => v = .slice (some ⟨nb, 0, none⟩) 4 nc
  | 10, v, w => v = .pointer (some ⟨nb, 3, none⟩)
  | 11, v, w => v = .int .i64 m3
  | 12, v, w => v = .slice ra rn rc
  | 13, v, w => v = .agg #[.int .i64 m2, .int .i64 m3, .slice ra rn rc]
  | 14, v, w => v = .pointer (some ⟨BX, 3, none⟩)
  | 15, v, w => v = .slice (some ⟨b, of, none⟩) 7 vc
  | 16, v, w => v = .pointer (some ⟨b, of + 16, none⟩)
  | 17, v, w => v = .pointer (some ⟨b, of + 18, none⟩)
  | 18, v, w => v = .string S4
  | 19, v, w => v = .slice va vm vcc
  | 20, v, w => v = .agg #[.int .i64 m0, .int .i64 m1, .int .i64 m2, .int .i64 m3, .slice ra rn rc, .string S4, .slice va vm vcc]
  | 21, v, w => ∃ c, v = .pointer (some ⟨c, 0, none⟩) ∧ w1.heap.size ≤ c ∧ w.heap[c]? = some (.cells #[.int .i64 0, .int .i64 0, .int .i64 0, .int .i64 0, .slice none 0 0, .string ⟨#[]⟩, .slice none 0 0] 42 (0, 0))
  | _, _, _ => True
def wgbD : Nat → List Nat
  | _ => []
theorem wgb_keep (BX b of nb nc : Nat) (vn : Int) (vt : ByteArray) (vc : Nat) (m0 m1 m2 m3 : Int) (S4 : ByteArray) (ra : Option Addr) (rn rc : Nat) (va : Option Addr) (vm vcc : Nat) (w1 : World) : ∀ (j : Nat) (u : Value) (w w' : World), Below w.heap.size w w' → (wgbT BX b of nb nc vn vt vc m0 m1 m2 m3 S4 ra rn rc va vm vcc w1) j u w → (wgbT BX b of nb nc vn vt vc m0 m1 m2 m3 S4 ra rn rc va vm vcc w1) j u w'
  | 21, u, w, w', hb, h => by obtain ⟨c, rfl, h0, h1⟩ := h; exact ⟨c, rfl, h0, (hb.block _ (lt_of_block h1)).trans h1⟩
  | 0, u, w, w', hb, h => h
  | 1, u, w, w', hb, h => h
  | 2, u, w, w', hb, h => h
  | 3, u, w, w', hb, h => h
  | 4, u, w, w', hb, h => h
  | 5, u, w, w', hb, h => h
  | 6, u, w, w', hb, h => h
  | 7, u, w, w', hb, h => h
  | 8, u, w, w', hb, h => h
  | 9, u, w, w', hb, h => h
  | 10, u, w, w', hb, h => h
  | 11, u, w, w', hb, h => h
  | 12, u, w, w', hb, h => h
  | 13, u, w, w', hb, h => h
  | 14, u, w, w', hb, h => h
  | 15, u, w, w', hb, h => h
  | 16, u, w, w', hb, h => h
  | 17, u, w, w', hb, h => h
  | 18, u, w, w', hb, h => h
  | 19, u, w, w', hb, h => h
  | 20, u, w, w', hb, h => h
  | _ + 22, u, w, w', hb, h => trivial
theorem wgb_free (BX b of nb nc : Nat) (vn : Int) (vt : ByteArray) (vc : Nat) (m0 m1 m2 m3 : Int) (S4 : ByteArray) (ra : Option Addr) (rn rc : Nat) (va : Option Addr) (vm vcc : Nat) (w1 : World) : ∀ (j : Nat) (u : Value) (w w' : World), [21].contains j = false → (wgbT BX b of nb nc vn vt vc m0 m1 m2 m3 S4 ra rn rc va vm vcc w1) j u w → (wgbT BX b of nb nc vn vt vc m0 m1 m2 m3 S4 ra rn rc va vm vcc w1) j u w'
  | 21, u, w, w', hb, h => by cases hb
  | 0, u, w, w', hb, h => h
  | 1, u, w, w', hb, h => h
  | 2, u, w, w', hb, h => h
  | 3, u, w, w', hb, h => h
  | 4, u, w, w', hb, h => h
  | 5, u, w, w', hb, h => h
  | 6, u, w, w', hb, h => h
  | 7, u, w, w', hb, h => h
  | 8, u, w, w', hb, h => h
  | 9, u, w, w', hb, h => h
  | 10, u, w, w', hb, h => h
  | 11, u, w, w', hb, h => h
  | 12, u, w, w', hb, h => h
  | 13, u, w, w', hb, h => h
  | 14, u, w, w', hb, h => h
  | 15, u, w, w', hb, h => h
  | 16, u, w, w', hb, h => h
  | 17, u, w, w', hb, h => h
  | 18, u, w, w', hb, h => h
  | 19, u, w, w', hb, h => h
  | 20, u, w, w', hb, h => h
  | _ + 22, u, w, w', hb, h => trivial
set_option maxHeartbeats 4000000 in
theorem wgb_steps (BX b of nb nc : Nat) (vn : Int) (vt : ByteArray) (vc : Nat) (m0 m1 m2 m3 : Int) (S4 : ByteArray) (ra : Option Addr) (rn rc : Nat) (va : Option Addr) (vm vcc : Nat) (w1 : World) (hb3 : b < w1.heap.size) (hBX : w1.heap[BX]? = some (.cells #[.int .i64 3, .int .i64 vn, .string vt, .slice (some ⟨b, of, none⟩) 7 vc] 58 (0, 0))) (hnb : nb < w1.heap.size) (hm0 : w1.cell? ⟨nb, 0, none⟩ = some (.int .i64 m0)) (hm1 : w1.cell? ⟨nb, 1, none⟩ = some (.int .i64 m1)) (hm2 : w1.cell? ⟨nb, 2, none⟩ = some (.int .i64 m2)) (hm3 : w1.cell? ⟨nb, 3, none⟩ = some (.int .i64 m3)) (hs4 : w1.cell? ⟨b, of + 18, none⟩ = some (.string S4)) {a : Act} (hs : a.tmps.size = 109) (b7 : a.eval (.tmp 7) = .slice (some ⟨nb, 0, none⟩) 4 nc) (b10 : a.eval (.tmp 10) = .slice ra rn rc) (b9 : a.eval (.tmp 9) = .slice va vm vcc) (b4 : a.eval (.tmp 4) = .pointer (some ⟨BX, 0, none⟩)) : ∀ i o, i < 22 → (regOf Tryd.f18 9)[i]? = some o → StepOk Tryd.prog (regOf Tryd.f18 9) a (fun w => Below w1.heap.size w1 w) (wgbT BX b of nb nc vn vt vc m0 m1 m2 m3 S4 ra rn rc va vm vcc w1) wgbD i o := by
  have hz : ∀ t, Nat.blt t 109 = true → Nat.blt t a.tmps.size = true := fun t h => by rw [hs]; exact h
  have hsz : (regOf Tryd.f18 9).size = 23 := by kernel_rfl
  intro i o hii ho
  match i, hii with
  | 0, _ =>
    have ho1 := opIs ho (p := .move (.tmp 7)) (by kernel_rfl)
    have hg := guardIs ho (p := none) (by kernel_rfl)
    intro e A w hA hC hp K hk
    have x7 : A.eval (.tmp 7) = .slice (some ⟨nb, 0, none⟩) 4 nc := filled_base hA (by kernel_rfl) b7
    have hw : Region.wanted o (yielded (regOf Tryd.f18 9) A.tmps) = true := wanted_free hg
    exact step_pure hk hC hw (run_move ho1 x7 w) rfl
  | 1, _ =>
    have ho1 := opIs ho (p := .indexAddr 23 (.tmp 75) (.const (.int .i64 0))) (by kernel_rfl)
    have hg := guardIs ho (p := none) (by kernel_rfl)
    intro e A w hA hC hp K hk
    have x75 : A.eval (.tmp 75) = .slice (some ⟨nb, 0, none⟩) 4 nc := op_tmp hA hp 75 0 (by kernel_rfl) (by kernel_rfl) (by kernel_rfl) (hz _ rfl)
    have hw : Region.wanted o (yielded (regOf Tryd.f18 9) A.tmps) = true := wanted_free hg
    refine step_pure (v := .pointer (some ⟨nb, 0, none⟩)) hk hC hw ?_ rfl
    unfold execOp
    simp only [ho1]
    have xc : ∀ v, A.eval (.const v) = v := fun _ => rfl
    generalize A.eval = ρ at x75 xc ⊢
    simp [go_sem, x75, xc]
  | 2, _ =>
    have ho1 := opIs ho (p := .load 3 (.tmp 76)) (by kernel_rfl)
    have hg := guardIs ho (p := none) (by kernel_rfl)
    intro e A w hA hC hp K hk
    have x76 : A.eval (.tmp 76) = .pointer (some ⟨nb, 0, none⟩) := op_tmp hA hp 76 1 (by kernel_rfl) (by kernel_rfl) (by kernel_rfl) (hz _ rfl)
    have hw : Region.wanted o (yielded (regOf Tryd.f18 9) A.tmps) = true := wanted_free hg
    have e0 := (World.cell?_of_block (a := ⟨nb, 0, none⟩) (hC.block nb hnb)).trans hm0
    refine step_pure (v := .int .i64 m0) hk hC hw ?_ rfl
    unfold execOp
    simp only [ho1]
    skip
    generalize A.eval = ρ at x76 ⊢
    simp [go_sem, x76, e0]
  | 3, _ =>
    have ho1 := opIs ho (p := .move (.tmp 7)) (by kernel_rfl)
    have hg := guardIs ho (p := none) (by kernel_rfl)
    intro e A w hA hC hp K hk
    have x7 : A.eval (.tmp 7) = .slice (some ⟨nb, 0, none⟩) 4 nc := filled_base hA (by kernel_rfl) b7
    have hw : Region.wanted o (yielded (regOf Tryd.f18 9) A.tmps) = true := wanted_free hg
    exact step_pure hk hC hw (run_move ho1 x7 w) rfl
  | 4, _ =>
    have ho1 := opIs ho (p := .indexAddr 23 (.tmp 78) (.const (.int .i64 1))) (by kernel_rfl)
    have hg := guardIs ho (p := none) (by kernel_rfl)
    intro e A w hA hC hp K hk
    have x78 : A.eval (.tmp 78) = .slice (some ⟨nb, 0, none⟩) 4 nc := op_tmp hA hp 78 3 (by kernel_rfl) (by kernel_rfl) (by kernel_rfl) (hz _ rfl)
    have hw : Region.wanted o (yielded (regOf Tryd.f18 9) A.tmps) = true := wanted_free hg
    refine step_pure (v := .pointer (some ⟨nb, 1, none⟩)) hk hC hw ?_ rfl
    unfold execOp
    simp only [ho1]
    have xc : ∀ v, A.eval (.const v) = v := fun _ => rfl
    generalize A.eval = ρ at x78 xc ⊢
    simp [go_sem, x78, xc]
  | 5, _ =>
    have ho1 := opIs ho (p := .load 3 (.tmp 79)) (by kernel_rfl)
    have hg := guardIs ho (p := none) (by kernel_rfl)
    intro e A w hA hC hp K hk
    have x79 : A.eval (.tmp 79) = .pointer (some ⟨nb, 1, none⟩) := op_tmp hA hp 79 4 (by kernel_rfl) (by kernel_rfl) (by kernel_rfl) (hz _ rfl)
    have hw : Region.wanted o (yielded (regOf Tryd.f18 9) A.tmps) = true := wanted_free hg
    have e0 := (World.cell?_of_block (a := ⟨nb, 1, none⟩) (hC.block nb hnb)).trans hm1
    refine step_pure (v := .int .i64 m1) hk hC hw ?_ rfl
    unfold execOp
    simp only [ho1]
    skip
    generalize A.eval = ρ at x79 ⊢
    simp [go_sem, x79, e0]
  | 6, _ =>
    have ho1 := opIs ho (p := .move (.tmp 7)) (by kernel_rfl)
    have hg := guardIs ho (p := none) (by kernel_rfl)
    intro e A w hA hC hp K hk
    have x7 : A.eval (.tmp 7) = .slice (some ⟨nb, 0, none⟩) 4 nc := filled_base hA (by kernel_rfl) b7
    have hw : Region.wanted o (yielded (regOf Tryd.f18 9) A.tmps) = true := wanted_free hg
    exact step_pure hk hC hw (run_move ho1 x7 w) rfl
  | 7, _ =>
    have ho1 := opIs ho (p := .indexAddr 23 (.tmp 81) (.const (.int .i64 2))) (by kernel_rfl)
    have hg := guardIs ho (p := none) (by kernel_rfl)
    intro e A w hA hC hp K hk
    have x81 : A.eval (.tmp 81) = .slice (some ⟨nb, 0, none⟩) 4 nc := op_tmp hA hp 81 6 (by kernel_rfl) (by kernel_rfl) (by kernel_rfl) (hz _ rfl)
    have hw : Region.wanted o (yielded (regOf Tryd.f18 9) A.tmps) = true := wanted_free hg
    refine step_pure (v := .pointer (some ⟨nb, 2, none⟩)) hk hC hw ?_ rfl
    unfold execOp
    simp only [ho1]
    have xc : ∀ v, A.eval (.const v) = v := fun _ => rfl
    generalize A.eval = ρ at x81 xc ⊢
    simp [go_sem, x81, xc]
  | 8, _ =>
    have ho1 := opIs ho (p := .load 3 (.tmp 82)) (by kernel_rfl)
    have hg := guardIs ho (p := none) (by kernel_rfl)
    intro e A w hA hC hp K hk
    have x82 : A.eval (.tmp 82) = .pointer (some ⟨nb, 2, none⟩) := op_tmp hA hp 82 7 (by kernel_rfl) (by kernel_rfl) (by kernel_rfl) (hz _ rfl)
    have hw : Region.wanted o (yielded (regOf Tryd.f18 9) A.tmps) = true := wanted_free hg
    have e0 := (World.cell?_of_block (a := ⟨nb, 2, none⟩) (hC.block nb hnb)).trans hm2
    refine step_pure (v := .int .i64 m2) hk hC hw ?_ rfl
    unfold execOp
    simp only [ho1]
    skip
    generalize A.eval = ρ at x82 ⊢
    simp [go_sem, x82, e0]
  | 9, _ =>
    have ho1 := opIs ho (p := .move (.tmp 7)) (by kernel_rfl)
    have hg := guardIs ho (p := none) (by kernel_rfl)
    intro e A w hA hC hp K hk
    have x7 : A.eval (.tmp 7) = .slice (some ⟨nb, 0, none⟩) 4 nc := filled_base hA (by kernel_rfl) b7
    have hw : Region.wanted o (yielded (regOf Tryd.f18 9) A.tmps) = true := wanted_free hg
    exact step_pure hk hC hw (run_move ho1 x7 w) rfl
  | 10, _ =>
    have ho1 := opIs ho (p := .indexAddr 23 (.tmp 84) (.const (.int .i64 3))) (by kernel_rfl)
    have hg := guardIs ho (p := none) (by kernel_rfl)
    intro e A w hA hC hp K hk
    have x84 : A.eval (.tmp 84) = .slice (some ⟨nb, 0, none⟩) 4 nc := op_tmp hA hp 84 9 (by kernel_rfl) (by kernel_rfl) (by kernel_rfl) (hz _ rfl)
    have hw : Region.wanted o (yielded (regOf Tryd.f18 9) A.tmps) = true := wanted_free hg
    refine step_pure (v := .pointer (some ⟨nb, 3, none⟩)) hk hC hw ?_ rfl
    unfold execOp
    simp only [ho1]
    have xc : ∀ v, A.eval (.const v) = v := fun _ => rfl
    generalize A.eval = ρ at x84 xc ⊢
    simp [go_sem, x84, xc]
  | 11, _ =>
    have ho1 := opIs ho (p := .load 3 (.tmp 85)) (by kernel_rfl)
    have hg := guardIs ho (p := none) (by kernel_rfl)
    intro e A w hA hC hp K hk
    have x85 : A.eval (.tmp 85) = .pointer (some ⟨nb, 3, none⟩) := op_tmp hA hp 85 10 (by kernel_rfl) (by kernel_rfl) (by kernel_rfl) (hz _ rfl)
    have hw : Region.wanted o (yielded (regOf Tryd.f18 9) A.tmps) = true := wanted_free hg
    have e0 := (World.cell?_of_block (a := ⟨nb, 3, none⟩) (hC.block nb hnb)).trans hm3
    refine step_pure (v := .int .i64 m3) hk hC hw ?_ rfl
    unfold execOp
    simp only [ho1]
    skip
    generalize A.eval = ρ at x85 ⊢
    simp [go_sem, x85, e0]
  | 12, _ =>
    have ho1 := opIs ho (p := .move (.tmp 10)) (by kernel_rfl)
    have hg := guardIs ho (p := none) (by kernel_rfl)
    intro e A w hA hC hp K hk
    have x10 : A.eval (.tmp 10) = .slice ra rn rc := filled_base hA (by kernel_rfl) b10
    have hw : Region.wanted o (yielded (regOf Tryd.f18 9) A.tmps) = true := wanted_free hg
    exact step_pure hk hC hw (run_move ho1 x10 w) rfl
  | 13, _ =>
    have ho1 := opIs ho (p := .build 40 #[(0, (.tmp 83)), (1, (.tmp 86)), (2, (.tmp 87))]) (by kernel_rfl)
    have hg := guardIs ho (p := none) (by kernel_rfl)
    intro e A w hA hC hp K hk
    have x83 : A.eval (.tmp 83) = .int .i64 m2 := op_tmp hA hp 83 8 (by kernel_rfl) (by kernel_rfl) (by kernel_rfl) (hz _ rfl)
    have x86 : A.eval (.tmp 86) = .int .i64 m3 := op_tmp hA hp 86 11 (by kernel_rfl) (by kernel_rfl) (by kernel_rfl) (hz _ rfl)
    have x87 : A.eval (.tmp 87) = .slice ra rn rc := op_tmp hA hp 87 12 (by kernel_rfl) (by kernel_rfl) (by kernel_rfl) (hz _ rfl)
    have hw : Region.wanted o (yielded (regOf Tryd.f18 9) A.tmps) = true := wanted_free hg
    refine step_pure (v := .agg #[.int .i64 m2, .int .i64 m3, .slice ra rn rc]) hk hC hw ?_ rfl
    unfold execOp
    simp only [ho1]
    generalize A.eval = ρ at x83 x86 x87 ⊢
    simp [go_sem, x83, x86, x87]
  | 14, _ =>
    have ho1 := opIs ho (p := .fieldAddr 58 (.tmp 4) 3) (by kernel_rfl)
    have hg := guardIs ho (p := none) (by kernel_rfl)
    intro e A w hA hC hp K hk
    have x4 : A.eval (.tmp 4) = .pointer (some ⟨BX, 0, none⟩) := filled_base hA (by kernel_rfl) b4
    have hw : Region.wanted o (yielded (regOf Tryd.f18 9) A.tmps) = true := wanted_free hg
    refine step_pure (v := .pointer (some ⟨BX, 3, none⟩)) hk hC hw ?_ rfl
    unfold execOp
    simp only [ho1]
    generalize A.eval = ρ at x4 ⊢
    simp [go_sem, x4]
  | 15, _ =>
    have ho1 := opIs ho (p := .load 56 (.tmp 89)) (by kernel_rfl)
    have hg := guardIs ho (p := none) (by kernel_rfl)
    intro e A w hA hC hp K hk
    have x89 : A.eval (.tmp 89) = .pointer (some ⟨BX, 3, none⟩) := op_tmp hA hp 89 14 (by kernel_rfl) (by kernel_rfl) (by kernel_rfl) (hz _ rfl)
    have hw : Region.wanted o (yielded (regOf Tryd.f18 9) A.tmps) = true := wanted_free hg
    have e1 := Blk.cell (j := 3) ((hC.block BX (lt_of_block hBX)).trans hBX) rfl
    refine step_pure (v := .slice (some ⟨b, of, none⟩) 7 vc) hk hC hw ?_ rfl
    unfold execOp
    simp only [ho1]
    skip
    generalize A.eval = ρ at x89 ⊢
    simp [go_sem, x89, e1]
  | 16, _ =>
    have ho1 := opIs ho (p := .indexAddr 56 (.tmp 90) (.const (.int .i64 4))) (by kernel_rfl)
    have hg := guardIs ho (p := none) (by kernel_rfl)
    intro e A w hA hC hp K hk
    have x90 : A.eval (.tmp 90) = .slice (some ⟨b, of, none⟩) 7 vc := op_tmp hA hp 90 15 (by kernel_rfl) (by kernel_rfl) (by kernel_rfl) (hz _ rfl)
    have hw : Region.wanted o (yielded (regOf Tryd.f18 9) A.tmps) = true := wanted_free hg
    refine step_pure (v := .pointer (some ⟨b, of + 16, none⟩)) hk hC hw ?_ rfl
    unfold execOp
    simp only [ho1]
    have xc : ∀ v, A.eval (.const v) = v := fun _ => rfl
    generalize A.eval = ρ at x90 xc ⊢
    simp [go_sem, x90, xc]
  | 17, _ =>
    have ho1 := opIs ho (p := .fieldAddr 58 (.tmp 91) 2) (by kernel_rfl)
    have hg := guardIs ho (p := none) (by kernel_rfl)
    intro e A w hA hC hp K hk
    have x91 : A.eval (.tmp 91) = .pointer (some ⟨b, of + 16, none⟩) := op_tmp hA hp 91 16 (by kernel_rfl) (by kernel_rfl) (by kernel_rfl) (hz _ rfl)
    have hw : Region.wanted o (yielded (regOf Tryd.f18 9) A.tmps) = true := wanted_free hg
    refine step_pure (v := .pointer (some ⟨b, of + 18, none⟩)) hk hC hw ?_ rfl
    unfold execOp
    simp only [ho1]
    generalize A.eval = ρ at x91 ⊢
    simp [go_sem, x91]
  | 18, _ =>
    have ho1 := opIs ho (p := .load 9 (.tmp 92)) (by kernel_rfl)
    have hg := guardIs ho (p := none) (by kernel_rfl)
    intro e A w hA hC hp K hk
    have x92 : A.eval (.tmp 92) = .pointer (some ⟨b, of + 18, none⟩) := op_tmp hA hp 92 17 (by kernel_rfl) (by kernel_rfl) (by kernel_rfl) (hz _ rfl)
    have hw : Region.wanted o (yielded (regOf Tryd.f18 9) A.tmps) = true := wanted_free hg
    have e0 := (World.cell?_of_block (a := ⟨b, of + 18, none⟩) (hC.block b hb3)).trans hs4
    refine step_pure (v := .string S4) hk hC hw ?_ rfl
    unfold execOp
    simp only [ho1]
    skip
    generalize A.eval = ρ at x92 ⊢
    simp [go_sem, x92, e0]
  | 19, _ =>
    have ho1 := opIs ho (p := .move (.tmp 9)) (by kernel_rfl)
    have hg := guardIs ho (p := none) (by kernel_rfl)
    intro e A w hA hC hp K hk
    have x9 : A.eval (.tmp 9) = .slice va vm vcc := filled_base hA (by kernel_rfl) b9
    have hw : Region.wanted o (yielded (regOf Tryd.f18 9) A.tmps) = true := wanted_free hg
    exact step_pure hk hC hw (run_move ho1 x9 w) rfl
  | 20, _ =>
    have ho1 := opIs ho (p := .build 42 #[(0, (.tmp 77)), (1, (.tmp 80)), (2, (.tmp 88)), (3, (.tmp 93)), (4, (.tmp 94))]) (by kernel_rfl)
    have hg := guardIs ho (p := none) (by kernel_rfl)
    intro e A w hA hC hp K hk
    have x77 : A.eval (.tmp 77) = .int .i64 m0 := op_tmp hA hp 77 2 (by kernel_rfl) (by kernel_rfl) (by kernel_rfl) (hz _ rfl)
    have x80 : A.eval (.tmp 80) = .int .i64 m1 := op_tmp hA hp 80 5 (by kernel_rfl) (by kernel_rfl) (by kernel_rfl) (hz _ rfl)
    have x88 : A.eval (.tmp 88) = .agg #[.int .i64 m2, .int .i64 m3, .slice ra rn rc] := op_tmp hA hp 88 13 (by kernel_rfl) (by kernel_rfl) (by kernel_rfl) (hz _ rfl)
    have x93 : A.eval (.tmp 93) = .string S4 := op_tmp hA hp 93 18 (by kernel_rfl) (by kernel_rfl) (by kernel_rfl) (hz _ rfl)
    have x94 : A.eval (.tmp 94) = .slice va vm vcc := op_tmp hA hp 94 19 (by kernel_rfl) (by kernel_rfl) (by kernel_rfl) (hz _ rfl)
    have hw : Region.wanted o (yielded (regOf Tryd.f18 9) A.tmps) = true := wanted_free hg
    refine step_pure (v := .agg #[.int .i64 m0, .int .i64 m1, .int .i64 m2, .int .i64 m3, .slice ra rn rc, .string S4, .slice va vm vcc]) hk hC hw ?_ rfl
    unfold execOp
    simp only [ho1]
    generalize A.eval = ρ at x77 x80 x88 x93 x94 ⊢
    simp [go_sem, x77, x80, x88, x93, x94]
  | 21, _ =>
    have ho1 := opIs ho (p := .alloc 42) (by kernel_rfl)
    have hg := guardIs ho (p := none) (by kernel_rfl)
    intro e A w hA hC hp K hk
    have hw : Region.wanted o (yielded (regOf Tryd.f18 9) A.tmps) = true := wanted_free hg
    refine step_value (v := .pointer (some ⟨w.heap.size, 0, none⟩)) (w' := w.alloc (.cells #[.int .i64 0, .int .i64 0, .int .i64 0, .int .i64 0, .slice none 0 0, .string ⟨#[]⟩, .slice none 0 0] 42)) hk hw ?_ ?_ ?_ ?_
    · unfold execOp
      simp only [ho1]
      simp [go_sem]
    · exact ⟨w.heap.size, rfl, hC.size, heap_alloc_new w _⟩
    · exact hC.alloc hC.size _
    · intro j u _ _ _ _ h
      exact wgb_keep BX b of nb nc vn vt vc m0 m1 m2 m3 S4 ra rn rc va vm vcc w1 j u w _ ((Below.refl _ w).alloc (Nat.le_refl _) _) h
  | _ + 22, h => exact absurd h (by omega)
/-- What each operation of the region yields. -/
def rgbT (BX b of nb nc : Nat) (vn : Int) (vt : ByteArray) (vc : Nat) (m0 m1 m2 m3 : Int) (S4 : ByteArray) (ra : Option Addr) (rn rc : Nat) (va : Option Addr) (vm vcc : Nat) (w1 : World) : Nat → Value → World → Prop
  | 0, v, w => v = .slice (some ⟨nb, 0, none⟩) 4 nc
  | 1, v, w => v = .pointer (some ⟨nb, 0, none⟩)
  | 2, v, w => v = .int .i64 m0
  | 3, v, w => v = .slice (some ⟨nb, 0, none⟩) 4 nc
  | 4, v, w => v = .pointer (some ⟨nb, 1, none⟩)
  | 5, v, w => v = .int .i64 m1
  | 6, v, w => v = .slice (some ⟨nb, 0, none⟩) 4 nc
  | 7, v, w => v = .pointer (some ⟨nb, 2, none⟩)
  | 8, v, w => v = .int .i64 m2
  | 9, v, w => v = .slice (some ⟨nb, 0, none⟩) 4 nc
  | 10, v, w => v = .pointer (some ⟨nb, 3, none⟩)
  | 11, v, w => v = .int .i64 m3
  | 12, v, w => v = .slice ra rn rc
  | 13, v, w => v = .agg #[.int .i64 m2, .int .i64 m3, .slice ra rn rc]
  | 14, v, w => v = .pointer (some ⟨BX, 3, none⟩)
  | 15, v, w => v = .slice (some ⟨b, of, none⟩) 7 vc
  | 16, v, w => v = .pointer (some ⟨b, of + 16, none⟩)
  | 17, v, w => v = .pointer (some ⟨b, of + 18, none⟩)
  | 18, v, w => v = .string S4
  | 19, v, w => v = .slice va vm vcc
  | 20, v, w => v = .agg #[.int .i64 m0, .int .i64 m1, .int .i64 m2, .int .i64 m3, .slice ra rn rc, .string S4, .slice va vm vcc]
  | 21, v, w => ∃ c, v = .pointer (some ⟨c, 0, none⟩) ∧ w1.heap.size ≤ c ∧ w.heap[c]? = some (.cells #[.int .i64 0, .int .i64 0, .int .i64 0, .int .i64 0, .slice none 0 0, .string ⟨#[]⟩, .slice none 0 0] 42 (0, 0))
  | _, _, _ => True
def rgbD : Nat → List Nat
  | _ => []
theorem rgb_keep (BX b of nb nc : Nat) (vn : Int) (vt : ByteArray) (vc : Nat) (m0 m1 m2 m3 : Int) (S4 : ByteArray) (ra : Option Addr) (rn rc : Nat) (va : Option Addr) (vm vcc : Nat) (w1 : World) : ∀ (j : Nat) (u : Value) (w w' : World), Below w.heap.size w w' → (rgbT BX b of nb nc vn vt vc m0 m1 m2 m3 S4 ra rn rc va vm vcc w1) j u w → (rgbT BX b of nb nc vn vt vc m0 m1 m2 m3 S4 ra rn rc va vm vcc w1) j u w'
  | 21, u, w, w', hb, h => by obtain ⟨c, rfl, h0, h1⟩ := h; exact ⟨c, rfl, h0, (hb.block _ (lt_of_block h1)).trans h1⟩
  | 0, u, w, w', hb, h => h
  | 1, u, w, w', hb, h => h
  | 2, u, w, w', hb, h => h
  | 3, u, w, w', hb, h => h
  | 4, u, w, w', hb, h => h
  | 5, u, w, w', hb, h => h
  | 6, u, w, w', hb, h => h
  | 7, u, w, w', hb, h => h
  | 8, u, w, w', hb, h => h
  | 9, u, w, w', hb, h => h
  | 10, u, w, w', hb, h => h
  | 11, u, w, w', hb, h => h
  | 12, u, w, w', hb, h => h
  | 13, u, w, w', hb, h => h
  | 14, u, w, w', hb, h => h
  | 15, u, w, w', hb, h => h
  | 16, u, w, w', hb, h => h
  | 17, u, w, w', hb, h => h
  | 18, u, w, w', hb, h => h
  | 19, u, w, w', hb, h => h
  | 20, u, w, w', hb, h => h
  | _ + 22, u, w, w', hb, h => trivial
theorem rgb_free (BX b of nb nc : Nat) (vn : Int) (vt : ByteArray) (vc : Nat) (m0 m1 m2 m3 : Int) (S4 : ByteArray) (ra : Option Addr) (rn rc : Nat) (va : Option Addr) (vm vcc : Nat) (w1 : World) : ∀ (j : Nat) (u : Value) (w w' : World), [21].contains j = false → (rgbT BX b of nb nc vn vt vc m0 m1 m2 m3 S4 ra rn rc va vm vcc w1) j u w → (rgbT BX b of nb nc vn vt vc m0 m1 m2 m3 S4 ra rn rc va vm vcc w1) j u w'
  | 21, u, w, w', hb, h => by cases hb
  | 0, u, w, w', hb, h => h
  | 1, u, w, w', hb, h => h
  | 2, u, w, w', hb, h => h
  | 3, u, w, w', hb, h => h
  | 4, u, w, w', hb, h => h
  | 5, u, w, w', hb, h => h
  | 6, u, w, w', hb, h => h
  | 7, u, w, w', hb, h => h
  | 8, u, w, w', hb, h => h
  | 9, u, w, w', hb, h => h
  | 10, u, w, w', hb, h => h
  | 11, u, w, w', hb, h => h
  | 12, u, w, w', hb, h => h
  | 13, u, w, w', hb, h => h
  | 14, u, w, w', hb, h => h
  | 15, u, w, w', hb, h => h
  | 16, u, w, w', hb, h => h
  | 17, u, w, w', hb, h => h
  | 18, u, w, w', hb, h => h
  | 19, u, w, w', hb, h => h
  | 20, u, w, w', hb, h => h
  | _ + 22, u, w, w', hb, h => trivial
set_option maxHeartbeats 4000000 in
theorem rgb_steps (BX b of nb nc : Nat) (vn : Int) (vt : ByteArray) (vc : Nat) (m0 m1 m2 m3 : Int) (S4 : ByteArray) (ra : Option Addr) (rn rc : Nat) (va : Option Addr) (vm vcc : Nat) (w1 : World) (hb3 : b < w1.heap.size) (hBX : w1.heap[BX]? = some (.cells #[.int .i64 3, .int .i64 vn, .string vt, .slice (some ⟨b, of, none⟩) 7 vc] 58 (0, 0))) (hnb : nb < w1.heap.size) (hm0 : w1.cell? ⟨nb, 0, none⟩ = some (.int .i64 m0)) (hm1 : w1.cell? ⟨nb, 1, none⟩ = some (.int .i64 m1)) (hm2 : w1.cell? ⟨nb, 2, none⟩ = some (.int .i64 m2)) (hm3 : w1.cell? ⟨nb, 3, none⟩ = some (.int .i64 m3)) (hs4 : w1.cell? ⟨b, of + 18, none⟩ = some (.string S4)) {a : Act} (hs : a.tmps.size = 111) (b7 : a.eval (.tmp 7) = .slice (some ⟨nb, 0, none⟩) 4 nc) (b11 : a.eval (.tmp 11) = .slice ra rn rc) (b9 : a.eval (.tmp 9) = .slice va vm vcc) (b4 : a.eval (.tmp 4) = .pointer (some ⟨BX, 0, none⟩)) : ∀ i o, i < 22 → (regOf Tryd.f19 11)[i]? = some o → StepOk Tryd.prog (regOf Tryd.f19 11) a (fun w => Below w1.heap.size w1 w) (rgbT BX b of nb nc vn vt vc m0 m1 m2 m3 S4 ra rn rc va vm vcc w1) rgbD i o := by
  have hz : ∀ t, Nat.blt t 111 = true → Nat.blt t a.tmps.size = true := fun t h => by rw [hs]; exact h
  have hsz : (regOf Tryd.f19 11).size = 23 := by kernel_rfl
  intro i o hii ho
  match i, hii with
  | 0, _ =>
    have ho1 := opIs ho (p := .move (.tmp 7)) (by kernel_rfl)
    have hg := guardIs ho (p := none) (by kernel_rfl)
    intro e A w hA hC hp K hk
    have x7 : A.eval (.tmp 7) = .slice (some ⟨nb, 0, none⟩) 4 nc := filled_base hA (by kernel_rfl) b7
    have hw : Region.wanted o (yielded (regOf Tryd.f19 11) A.tmps) = true := wanted_free hg
    exact step_pure hk hC hw (run_move ho1 x7 w) rfl
  | 1, _ =>
    have ho1 := opIs ho (p := .indexAddr 23 (.tmp 85) (.const (.int .i64 0))) (by kernel_rfl)
    have hg := guardIs ho (p := none) (by kernel_rfl)
    intro e A w hA hC hp K hk
    have x85 : A.eval (.tmp 85) = .slice (some ⟨nb, 0, none⟩) 4 nc := op_tmp hA hp 85 0 (by kernel_rfl) (by kernel_rfl) (by kernel_rfl) (hz _ rfl)
    have hw : Region.wanted o (yielded (regOf Tryd.f19 11) A.tmps) = true := wanted_free hg
    refine step_pure (v := .pointer (some ⟨nb, 0, none⟩)) hk hC hw ?_ rfl
    unfold execOp
    simp only [ho1]
    have xc : ∀ v, A.eval (.const v) = v := fun _ => rfl
    generalize A.eval = ρ at x85 xc ⊢
    simp [go_sem, x85, xc]
  | 2, _ =>
    have ho1 := opIs ho (p := .load 3 (.tmp 86)) (by kernel_rfl)
    have hg := guardIs ho (p := none) (by kernel_rfl)
    intro e A w hA hC hp K hk
    have x86 : A.eval (.tmp 86) = .pointer (some ⟨nb, 0, none⟩) := op_tmp hA hp 86 1 (by kernel_rfl) (by kernel_rfl) (by kernel_rfl) (hz _ rfl)
    have hw : Region.wanted o (yielded (regOf Tryd.f19 11) A.tmps) = true := wanted_free hg
    have e0 := (World.cell?_of_block (a := ⟨nb, 0, none⟩) (hC.block nb hnb)).trans hm0
    refine step_pure (v := .int .i64 m0) hk hC hw ?_ rfl
    unfold execOp
    simp only [ho1]
    skip
    generalize A.eval = ρ at x86 ⊢
    simp [go_sem, x86, e0]
  | 3, _ =>
    have ho1 := opIs ho (p := .move (.tmp 7)) (by kernel_rfl)
    have hg := guardIs ho (p := none) (by kernel_rfl)
    intro e A w hA hC hp K hk
    have x7 : A.eval (.tmp 7) = .slice (some ⟨nb, 0, none⟩) 4 nc := filled_base hA (by kernel_rfl) b7
    have hw : Region.wanted o (yielded (regOf Tryd.f19 11) A.tmps) = true := wanted_free hg
    exact step_pure hk hC hw (run_move ho1 x7 w) rfl
  | 4, _ =>
    have ho1 := opIs ho (p := .indexAddr 23 (.tmp 88) (.const (.int .i64 1))) (by kernel_rfl)
    have hg := guardIs ho (p := none) (by kernel_rfl)
    intro e A w hA hC hp K hk
    have x88 : A.eval (.tmp 88) = .slice (some ⟨nb, 0, none⟩) 4 nc := op_tmp hA hp 88 3 (by kernel_rfl) (by kernel_rfl) (by kernel_rfl) (hz _ rfl)
    have hw : Region.wanted o (yielded (regOf Tryd.f19 11) A.tmps) = true := wanted_free hg
    refine step_pure (v := .pointer (some ⟨nb, 1, none⟩)) hk hC hw ?_ rfl
    unfold execOp
    simp only [ho1]
    have xc : ∀ v, A.eval (.const v) = v := fun _ => rfl
    generalize A.eval = ρ at x88 xc ⊢
    simp [go_sem, x88, xc]
  | 5, _ =>
    have ho1 := opIs ho (p := .load 3 (.tmp 89)) (by kernel_rfl)
    have hg := guardIs ho (p := none) (by kernel_rfl)
    intro e A w hA hC hp K hk
    have x89 : A.eval (.tmp 89) = .pointer (some ⟨nb, 1, none⟩) := op_tmp hA hp 89 4 (by kernel_rfl) (by kernel_rfl) (by kernel_rfl) (hz _ rfl)
    have hw : Region.wanted o (yielded (regOf Tryd.f19 11) A.tmps) = true := wanted_free hg
    have e0 := (World.cell?_of_block (a := ⟨nb, 1, none⟩) (hC.block nb hnb)).trans hm1
    refine step_pure (v := .int .i64 m1) hk hC hw ?_ rfl
    unfold execOp
    simp only [ho1]
    skip
    generalize A.eval = ρ at x89 ⊢
    simp [go_sem, x89, e0]
  | 6, _ =>
    have ho1 := opIs ho (p := .move (.tmp 7)) (by kernel_rfl)
    have hg := guardIs ho (p := none) (by kernel_rfl)
    intro e A w hA hC hp K hk
    have x7 : A.eval (.tmp 7) = .slice (some ⟨nb, 0, none⟩) 4 nc := filled_base hA (by kernel_rfl) b7
    have hw : Region.wanted o (yielded (regOf Tryd.f19 11) A.tmps) = true := wanted_free hg
    exact step_pure hk hC hw (run_move ho1 x7 w) rfl
  | 7, _ =>
    have ho1 := opIs ho (p := .indexAddr 23 (.tmp 91) (.const (.int .i64 2))) (by kernel_rfl)
    have hg := guardIs ho (p := none) (by kernel_rfl)
    intro e A w hA hC hp K hk
    have x91 : A.eval (.tmp 91) = .slice (some ⟨nb, 0, none⟩) 4 nc := op_tmp hA hp 91 6 (by kernel_rfl) (by kernel_rfl) (by kernel_rfl) (hz _ rfl)
    have hw : Region.wanted o (yielded (regOf Tryd.f19 11) A.tmps) = true := wanted_free hg
    refine step_pure (v := .pointer (some ⟨nb, 2, none⟩)) hk hC hw ?_ rfl
    unfold execOp
    simp only [ho1]
    have xc : ∀ v, A.eval (.const v) = v := fun _ => rfl
    generalize A.eval = ρ at x91 xc ⊢
    simp [go_sem, x91, xc]
  | 8, _ =>
    have ho1 := opIs ho (p := .load 3 (.tmp 92)) (by kernel_rfl)
    have hg := guardIs ho (p := none) (by kernel_rfl)
    intro e A w hA hC hp K hk
    have x92 : A.eval (.tmp 92) = .pointer (some ⟨nb, 2, none⟩) := op_tmp hA hp 92 7 (by kernel_rfl) (by kernel_rfl) (by kernel_rfl) (hz _ rfl)
    have hw : Region.wanted o (yielded (regOf Tryd.f19 11) A.tmps) = true := wanted_free hg
    have e0 := (World.cell?_of_block (a := ⟨nb, 2, none⟩) (hC.block nb hnb)).trans hm2
    refine step_pure (v := .int .i64 m2) hk hC hw ?_ rfl
    unfold execOp
    simp only [ho1]
    skip
    generalize A.eval = ρ at x92 ⊢
    simp [go_sem, x92, e0]
  | 9, _ =>
    have ho1 := opIs ho (p := .move (.tmp 7)) (by kernel_rfl)
    have hg := guardIs ho (p := none) (by kernel_rfl)
    intro e A w hA hC hp K hk
    have x7 : A.eval (.tmp 7) = .slice (some ⟨nb, 0, none⟩) 4 nc := filled_base hA (by kernel_rfl) b7
    have hw : Region.wanted o (yielded (regOf Tryd.f19 11) A.tmps) = true := wanted_free hg
    exact step_pure hk hC hw (run_move ho1 x7 w) rfl
  | 10, _ =>
    have ho1 := opIs ho (p := .indexAddr 23 (.tmp 94) (.const (.int .i64 3))) (by kernel_rfl)
    have hg := guardIs ho (p := none) (by kernel_rfl)
    intro e A w hA hC hp K hk
    have x94 : A.eval (.tmp 94) = .slice (some ⟨nb, 0, none⟩) 4 nc := op_tmp hA hp 94 9 (by kernel_rfl) (by kernel_rfl) (by kernel_rfl) (hz _ rfl)
    have hw : Region.wanted o (yielded (regOf Tryd.f19 11) A.tmps) = true := wanted_free hg
    refine step_pure (v := .pointer (some ⟨nb, 3, none⟩)) hk hC hw ?_ rfl
    unfold execOp
    simp only [ho1]
    have xc : ∀ v, A.eval (.const v) = v := fun _ => rfl
    generalize A.eval = ρ at x94 xc ⊢
    simp [go_sem, x94, xc]
  | 11, _ =>
    have ho1 := opIs ho (p := .load 3 (.tmp 95)) (by kernel_rfl)
    have hg := guardIs ho (p := none) (by kernel_rfl)
    intro e A w hA hC hp K hk
    have x95 : A.eval (.tmp 95) = .pointer (some ⟨nb, 3, none⟩) := op_tmp hA hp 95 10 (by kernel_rfl) (by kernel_rfl) (by kernel_rfl) (hz _ rfl)
    have hw : Region.wanted o (yielded (regOf Tryd.f19 11) A.tmps) = true := wanted_free hg
    have e0 := (World.cell?_of_block (a := ⟨nb, 3, none⟩) (hC.block nb hnb)).trans hm3
    refine step_pure (v := .int .i64 m3) hk hC hw ?_ rfl
    unfold execOp
    simp only [ho1]
    skip
    generalize A.eval = ρ at x95 ⊢
    simp [go_sem, x95, e0]
  | 12, _ =>
    have ho1 := opIs ho (p := .move (.tmp 11)) (by kernel_rfl)
    have hg := guardIs ho (p := none) (by kernel_rfl)
    intro e A w hA hC hp K hk
    have x11 : A.eval (.tmp 11) = .slice ra rn rc := filled_base hA (by kernel_rfl) b11
    have hw : Region.wanted o (yielded (regOf Tryd.f19 11) A.tmps) = true := wanted_free hg
    exact step_pure hk hC hw (run_move ho1 x11 w) rfl
  | 13, _ =>
    have ho1 := opIs ho (p := .build 40 #[(0, (.tmp 93)), (1, (.tmp 96)), (2, (.tmp 97))]) (by kernel_rfl)
    have hg := guardIs ho (p := none) (by kernel_rfl)
    intro e A w hA hC hp K hk
    have x93 : A.eval (.tmp 93) = .int .i64 m2 := op_tmp hA hp 93 8 (by kernel_rfl) (by kernel_rfl) (by kernel_rfl) (hz _ rfl)
    have x96 : A.eval (.tmp 96) = .int .i64 m3 := op_tmp hA hp 96 11 (by kernel_rfl) (by kernel_rfl) (by kernel_rfl) (hz _ rfl)
    have x97 : A.eval (.tmp 97) = .slice ra rn rc := op_tmp hA hp 97 12 (by kernel_rfl) (by kernel_rfl) (by kernel_rfl) (hz _ rfl)
    have hw : Region.wanted o (yielded (regOf Tryd.f19 11) A.tmps) = true := wanted_free hg
    refine step_pure (v := .agg #[.int .i64 m2, .int .i64 m3, .slice ra rn rc]) hk hC hw ?_ rfl
    unfold execOp
    simp only [ho1]
    generalize A.eval = ρ at x93 x96 x97 ⊢
    simp [go_sem, x93, x96, x97]
  | 14, _ =>
    have ho1 := opIs ho (p := .fieldAddr 58 (.tmp 4) 3) (by kernel_rfl)
    have hg := guardIs ho (p := none) (by kernel_rfl)
    intro e A w hA hC hp K hk
    have x4 : A.eval (.tmp 4) = .pointer (some ⟨BX, 0, none⟩) := filled_base hA (by kernel_rfl) b4
    have hw : Region.wanted o (yielded (regOf Tryd.f19 11) A.tmps) = true := wanted_free hg
    refine step_pure (v := .pointer (some ⟨BX, 3, none⟩)) hk hC hw ?_ rfl
    unfold execOp
    simp only [ho1]
    generalize A.eval = ρ at x4 ⊢
    simp [go_sem, x4]
  | 15, _ =>
    have ho1 := opIs ho (p := .load 56 (.tmp 99)) (by kernel_rfl)
    have hg := guardIs ho (p := none) (by kernel_rfl)
    intro e A w hA hC hp K hk
    have x99 : A.eval (.tmp 99) = .pointer (some ⟨BX, 3, none⟩) := op_tmp hA hp 99 14 (by kernel_rfl) (by kernel_rfl) (by kernel_rfl) (hz _ rfl)
    have hw : Region.wanted o (yielded (regOf Tryd.f19 11) A.tmps) = true := wanted_free hg
    have e1 := Blk.cell (j := 3) ((hC.block BX (lt_of_block hBX)).trans hBX) rfl
    refine step_pure (v := .slice (some ⟨b, of, none⟩) 7 vc) hk hC hw ?_ rfl
    unfold execOp
    simp only [ho1]
    skip
    generalize A.eval = ρ at x99 ⊢
    simp [go_sem, x99, e1]
  | 16, _ =>
    have ho1 := opIs ho (p := .indexAddr 56 (.tmp 100) (.const (.int .i64 4))) (by kernel_rfl)
    have hg := guardIs ho (p := none) (by kernel_rfl)
    intro e A w hA hC hp K hk
    have x100 : A.eval (.tmp 100) = .slice (some ⟨b, of, none⟩) 7 vc := op_tmp hA hp 100 15 (by kernel_rfl) (by kernel_rfl) (by kernel_rfl) (hz _ rfl)
    have hw : Region.wanted o (yielded (regOf Tryd.f19 11) A.tmps) = true := wanted_free hg
    refine step_pure (v := .pointer (some ⟨b, of + 16, none⟩)) hk hC hw ?_ rfl
    unfold execOp
    simp only [ho1]
    have xc : ∀ v, A.eval (.const v) = v := fun _ => rfl
    generalize A.eval = ρ at x100 xc ⊢
    simp [go_sem, x100, xc]
  | 17, _ =>
    have ho1 := opIs ho (p := .fieldAddr 58 (.tmp 101) 2) (by kernel_rfl)
    have hg := guardIs ho (p := none) (by kernel_rfl)
    intro e A w hA hC hp K hk
    have x101 : A.eval (.tmp 101) = .pointer (some ⟨b, of + 16, none⟩) := op_tmp hA hp 101 16 (by kernel_rfl) (by kernel_rfl) (by kernel_rfl) (hz _ rfl)
    have hw : Region.wanted o (yielded (regOf Tryd.f19 11) A.tmps) = true := wanted_free hg
    refine step_pure (v := .pointer (some ⟨b, of + 18, none⟩)) hk hC hw ?_ rfl
    unfold execOp
    simp only [ho1]
    generalize A.eval = ρ at x101 ⊢
    simp [go_sem, x101]
  | 18, _ =>
    have ho1 := opIs ho (p := .load 9 (.tmp 102)) (by kernel_rfl)
    have hg := guardIs ho (p := none) (by kernel_rfl)
    intro e A w hA hC hp K hk
    have x102 : A.eval (.tmp 102) = .pointer (some ⟨b, of + 18, none⟩) := op_tmp hA hp 102 17 (by kernel_rfl) (by kernel_rfl) (by kernel_rfl) (hz _ rfl)
    have hw : Region.wanted o (yielded (regOf Tryd.f19 11) A.tmps) = true := wanted_free hg
    have e0 := (World.cell?_of_block (a := ⟨b, of + 18, none⟩) (hC.block b hb3)).trans hs4
    refine step_pure (v := .string S4) hk hC hw ?_ rfl
    unfold execOp
    simp only [ho1]
    skip
    generalize A.eval = ρ at x102 ⊢
    simp [go_sem, x102, e0]
  | 19, _ =>
    have ho1 := opIs ho (p := .move (.tmp 9)) (by kernel_rfl)
    have hg := guardIs ho (p := none) (by kernel_rfl)
    intro e A w hA hC hp K hk
    have x9 : A.eval (.tmp 9) = .slice va vm vcc := filled_base hA (by kernel_rfl) b9
    have hw : Region.wanted o (yielded (regOf Tryd.f19 11) A.tmps) = true := wanted_free hg
    exact step_pure hk hC hw (run_move ho1 x9 w) rfl
  | 20, _ =>
    have ho1 := opIs ho (p := .build 42 #[(0, (.tmp 87)), (1, (.tmp 90)), (2, (.tmp 98)), (3, (.tmp 103)), (4, (.tmp 104))]) (by kernel_rfl)
    have hg := guardIs ho (p := none) (by kernel_rfl)
    intro e A w hA hC hp K hk
    have x87 : A.eval (.tmp 87) = .int .i64 m0 := op_tmp hA hp 87 2 (by kernel_rfl) (by kernel_rfl) (by kernel_rfl) (hz _ rfl)
    have x90 : A.eval (.tmp 90) = .int .i64 m1 := op_tmp hA hp 90 5 (by kernel_rfl) (by kernel_rfl) (by kernel_rfl) (hz _ rfl)
    have x98 : A.eval (.tmp 98) = .agg #[.int .i64 m2, .int .i64 m3, .slice ra rn rc] := op_tmp hA hp 98 13 (by kernel_rfl) (by kernel_rfl) (by kernel_rfl) (hz _ rfl)
    have x103 : A.eval (.tmp 103) = .string S4 := op_tmp hA hp 103 18 (by kernel_rfl) (by kernel_rfl) (by kernel_rfl) (hz _ rfl)
    have x104 : A.eval (.tmp 104) = .slice va vm vcc := op_tmp hA hp 104 19 (by kernel_rfl) (by kernel_rfl) (by kernel_rfl) (hz _ rfl)
    have hw : Region.wanted o (yielded (regOf Tryd.f19 11) A.tmps) = true := wanted_free hg
    refine step_pure (v := .agg #[.int .i64 m0, .int .i64 m1, .int .i64 m2, .int .i64 m3, .slice ra rn rc, .string S4, .slice va vm vcc]) hk hC hw ?_ rfl
    unfold execOp
    simp only [ho1]
    generalize A.eval = ρ at x87 x90 x98 x103 x104 ⊢
    simp [go_sem, x87, x90, x98, x103, x104]
  | 21, _ =>
    have ho1 := opIs ho (p := .alloc 42) (by kernel_rfl)
    have hg := guardIs ho (p := none) (by kernel_rfl)
    intro e A w hA hC hp K hk
    have hw : Region.wanted o (yielded (regOf Tryd.f19 11) A.tmps) = true := wanted_free hg
    refine step_value (v := .pointer (some ⟨w.heap.size, 0, none⟩)) (w' := w.alloc (.cells #[.int .i64 0, .int .i64 0, .int .i64 0, .int .i64 0, .slice none 0 0, .string ⟨#[]⟩, .slice none 0 0] 42)) hk hw ?_ ?_ ?_ ?_
    · unfold execOp
      simp only [ho1]
      simp [go_sem]
    · exact ⟨w.heap.size, rfl, hC.size, heap_alloc_new w _⟩
    · exact hC.alloc hC.size _
    · intro j u _ _ _ _ h
      exact rgb_keep BX b of nb nc vn vt vc m0 m1 m2 m3 S4 ra rn rc va vm vcc w1 j u w _ ((Below.refl _ w).alloc (Nat.le_refl _) _) h
  | _ + 22, h => exact absurd h (by omega)
/-- What each operation of the region yields. -/
def wgnT (BX b of : Nat) (vn : Int) (vt : ByteArray) (vc : Nat) (ek en : Int) (es : ByteArray) (ea : Option Addr) (el : List V) (ec : Nat) (B : Bool) (w1 : World) : Nat → Value → World → Prop
  | 0, v, w => v = .pointer (some ⟨BX, 3, none⟩)
  | 1, v, w => v = .slice (some ⟨b, of, none⟩) 7 vc
  | 2, v, w => v = .pointer (some ⟨b, of + 20, none⟩)
  | 3, v, w => v = .agg #[.int .i64 ek, .int .i64 en, .string es, .slice ea el.length ec]
  | 4, v, w => v = .pointer (some ⟨BX, 3, none⟩)
  | 5, v, w => v = .slice (some ⟨b, of, none⟩) 7 vc
  | 6, v, w => v = .pointer (some ⟨b, of + 20, none⟩)
  | 7, v, w => v = .pointer (some ⟨b, of + 23, none⟩)
  | 8, v, w => v = .slice ea el.length ec
  | 9, v, w => v = .int .i64 (el.length : Int)
  | 10, v, w => ∃ a n c, v = .tuple #[.slice a n c, .bool B] ∧ (B = true → n = (el.map (fun x => cl x.n)).length ∧ w.ownsRow w1.heap.size 3 1 (.slice a n c) n (i64s (el.map (fun x => cl x.n))))
  | 11, v, w => ∃ a n c, v = .tuple #[.slice a n c, .bool B] ∧ (B = true → n = (el.map (fun x => cl x.n)).length ∧ w.ownsRow w1.heap.size 3 1 (.slice a n c) n (i64s (el.map (fun x => cl x.n))))
  | 12, v, w => ∃ a n c, v = .slice a n c ∧ (B = true → n = (el.map (fun x => cl x.n)).length ∧ w.ownsRow w1.heap.size 3 1 (.slice a n c) n (i64s (el.map (fun x => cl x.n))))
  | 13, v, w => v = .bool B
  | 14, v, w => ∃ a n c, v = .slice a n c ∧ (B = true → n = (el.map (fun x => cl x.n)).length ∧ w.ownsRow w1.heap.size 3 1 (.slice a n c) n (i64s (el.map (fun x => cl x.n))))
  | 15, v, w => v = .bool B
  | _, _, _ => True
def wgnD : Nat → List Nat
  | _ => []
theorem wgn_keep (BX b of : Nat) (vn : Int) (vt : ByteArray) (vc : Nat) (ek en : Int) (es : ByteArray) (ea : Option Addr) (el : List V) (ec : Nat) (B : Bool) (w1 : World) : ∀ (j : Nat) (u : Value) (w w' : World), Below w.heap.size w w' → (wgnT BX b of vn vt vc ek en es ea el ec B w1) j u w → (wgnT BX b of vn vt vc ek en es ea el ec B w1) j u w'
  | 10, u, w, w', hb, h => by obtain ⟨a, n, c, rfl, h1⟩ := h; exact ⟨a, n, c, rfl, fun hB => ⟨(h1 hB).1, own_under (h1 hB).2 hb⟩⟩
  | 11, u, w, w', hb, h => by obtain ⟨a, n, c, rfl, h1⟩ := h; exact ⟨a, n, c, rfl, fun hB => ⟨(h1 hB).1, own_under (h1 hB).2 hb⟩⟩
  | 12, u, w, w', hb, h => by obtain ⟨a, n, c, rfl, h1⟩ := h; exact ⟨a, n, c, rfl, fun hB => ⟨(h1 hB).1, own_under (h1 hB).2 hb⟩⟩
  | 14, u, w, w', hb, h => by obtain ⟨a, n, c, rfl, h1⟩ := h; exact ⟨a, n, c, rfl, fun hB => ⟨(h1 hB).1, own_under (h1 hB).2 hb⟩⟩
  | 0, u, w, w', hb, h => h
  | 1, u, w, w', hb, h => h
  | 2, u, w, w', hb, h => h
  | 3, u, w, w', hb, h => h
  | 4, u, w, w', hb, h => h
  | 5, u, w, w', hb, h => h
  | 6, u, w, w', hb, h => h
  | 7, u, w, w', hb, h => h
  | 8, u, w, w', hb, h => h
  | 9, u, w, w', hb, h => h
  | 13, u, w, w', hb, h => h
  | 15, u, w, w', hb, h => h
  | _ + 16, u, w, w', hb, h => trivial
theorem wgn_free (BX b of : Nat) (vn : Int) (vt : ByteArray) (vc : Nat) (ek en : Int) (es : ByteArray) (ea : Option Addr) (el : List V) (ec : Nat) (B : Bool) (w1 : World) : ∀ (j : Nat) (u : Value) (w w' : World), [10, 11, 12, 14].contains j = false → (wgnT BX b of vn vt vc ek en es ea el ec B w1) j u w → (wgnT BX b of vn vt vc ek en es ea el ec B w1) j u w'
  | 10, u, w, w', hb, h => by cases hb
  | 11, u, w, w', hb, h => by cases hb
  | 12, u, w, w', hb, h => by cases hb
  | 14, u, w, w', hb, h => by cases hb
  | 0, u, w, w', hb, h => h
  | 1, u, w, w', hb, h => h
  | 2, u, w, w', hb, h => h
  | 3, u, w, w', hb, h => h
  | 4, u, w, w', hb, h => h
  | 5, u, w, w', hb, h => h
  | 6, u, w, w', hb, h => h
  | 7, u, w, w', hb, h => h
  | 8, u, w, w', hb, h => h
  | 9, u, w, w', hb, h => h
  | 13, u, w, w', hb, h => h
  | 15, u, w, w', hb, h => h
  | _ + 16, u, w, w', hb, h => trivial
set_option maxHeartbeats 4000000 in
theorem wgn_steps (BX b of : Nat) (vn : Int) (vt : ByteArray) (vc : Nat) (ek en : Int) (es : ByteArray) (ea : Option Addr) (el : List V) (ec : Nat) (B : Bool) (w1 : World) (hb3 : b < w1.heap.size) (hBX : w1.heap[BX]? = some (.cells #[.int .i64 3, .int .i64 vn, .string vt, .slice (some ⟨b, of, none⟩) 7 vc] 58 (0, 0))) (hc0 : w1.cell? ⟨b, of + 20, none⟩ = some (.int .i64 ek)) (hc1 : w1.cell? ⟨b, of + 21, none⟩ = some (.int .i64 en)) (hc2 : w1.cell? ⟨b, of + 22, none⟩ = some (.string es)) (hc3 : w1.cell? ⟨b, of + 23, none⟩ = some (.slice ea el.length ec)) (hcall : ∀ w, Below w1.heap.size w1 w → Calls Tryd.prog 46 #[.agg #[.int .i64 ek, .int .i64 en, .string es, .slice ea el.length ec], .int .i64 (el.length : Int)] w (NumsP w B (el.map (fun x => cl x.n)))) {a : Act} (hs : a.tmps.size = 109) (b4 : a.eval (.tmp 4) = .pointer (some ⟨BX, 0, none⟩)) : ∀ i o, (regOf Tryd.f18 7)[i]? = some o → StepOk Tryd.prog (regOf Tryd.f18 7) a (fun w => Below w1.heap.size w1 w) (wgnT BX b of vn vt vc ek en es ea el ec B w1) wgnD i o := by
  have hz : ∀ t, Nat.blt t 109 = true → Nat.blt t a.tmps.size = true := fun t h => by rw [hs]; exact h
  have hsz : (regOf Tryd.f18 7).size = 16 := by kernel_rfl
  refine of_index 16 hsz ?_
  intro i hii o ho
  match i, hii with
  | 0, _ =>
    have ho1 := opIs ho (p := .fieldAddr 58 (.tmp 4) 3) (by kernel_rfl)
    have hg := guardIs ho (p := none) (by kernel_rfl)
    intro e A w hA hC hp K hk
    have x4 : A.eval (.tmp 4) = .pointer (some ⟨BX, 0, none⟩) := filled_base hA (by kernel_rfl) b4
    have hw : Region.wanted o (yielded (regOf Tryd.f18 7) A.tmps) = true := wanted_free hg
    refine step_pure (v := .pointer (some ⟨BX, 3, none⟩)) hk hC hw ?_ rfl
    unfold execOp
    simp only [ho1]
    generalize A.eval = ρ at x4 ⊢
    simp [go_sem, x4]
  | 1, _ =>
    have ho1 := opIs ho (p := .load 56 (.tmp 54)) (by kernel_rfl)
    have hg := guardIs ho (p := none) (by kernel_rfl)
    intro e A w hA hC hp K hk
    have x54 : A.eval (.tmp 54) = .pointer (some ⟨BX, 3, none⟩) := op_tmp hA hp 54 0 (by kernel_rfl) (by kernel_rfl) (by kernel_rfl) (hz _ rfl)
    have hw : Region.wanted o (yielded (regOf Tryd.f18 7) A.tmps) = true := wanted_free hg
    have e1 := Blk.cell (j := 3) ((hC.block BX (lt_of_block hBX)).trans hBX) rfl
    refine step_pure (v := .slice (some ⟨b, of, none⟩) 7 vc) hk hC hw ?_ rfl
    unfold execOp
    simp only [ho1]
    skip
    generalize A.eval = ρ at x54 ⊢
    simp [go_sem, x54, e1]
  | 2, _ =>
    have ho1 := opIs ho (p := .indexAddr 56 (.tmp 55) (.const (.int .i64 5))) (by kernel_rfl)
    have hg := guardIs ho (p := none) (by kernel_rfl)
    intro e A w hA hC hp K hk
    have x55 : A.eval (.tmp 55) = .slice (some ⟨b, of, none⟩) 7 vc := op_tmp hA hp 55 1 (by kernel_rfl) (by kernel_rfl) (by kernel_rfl) (hz _ rfl)
    have hw : Region.wanted o (yielded (regOf Tryd.f18 7) A.tmps) = true := wanted_free hg
    refine step_pure (v := .pointer (some ⟨b, of + 20, none⟩)) hk hC hw ?_ rfl
    unfold execOp
    simp only [ho1]
    have xc : ∀ v, A.eval (.const v) = v := fun _ => rfl
    generalize A.eval = ρ at x55 xc ⊢
    simp [go_sem, x55, xc]
  | 3, _ =>
    have ho1 := opIs ho (p := .load 58 (.tmp 56)) (by kernel_rfl)
    have hg := guardIs ho (p := none) (by kernel_rfl)
    intro e A w hA hC hp K hk
    have x56 : A.eval (.tmp 56) = .pointer (some ⟨b, of + 20, none⟩) := op_tmp hA hp 56 2 (by kernel_rfl) (by kernel_rfl) (by kernel_rfl) (hz _ rfl)
    have hw : Region.wanted o (yielded (regOf Tryd.f18 7) A.tmps) = true := wanted_free hg
    have e0 := (World.cell?_of_block (a := ⟨b, of + 20, none⟩) (hC.block b hb3)).trans hc0
    have e1 := (World.cell?_of_block (a := ⟨b, of + 21, none⟩) (hC.block b hb3)).trans hc1
    have e2 := (World.cell?_of_block (a := ⟨b, of + 22, none⟩) (hC.block b hb3)).trans hc2
    have e3 := (World.cell?_of_block (a := ⟨b, of + 23, none⟩) (hC.block b hb3)).trans hc3
    refine step_pure (v := .agg #[.int .i64 ek, .int .i64 en, .string es, .slice ea el.length ec]) hk hC hw ?_ rfl
    unfold execOp
    simp only [ho1]
    skip
    generalize A.eval = ρ at x56 ⊢
    simp [go_sem, x56, e0, e1, e2, e3]
  | 4, _ =>
    have ho1 := opIs ho (p := .fieldAddr 58 (.tmp 4) 3) (by kernel_rfl)
    have hg := guardIs ho (p := none) (by kernel_rfl)
    intro e A w hA hC hp K hk
    have x4 : A.eval (.tmp 4) = .pointer (some ⟨BX, 0, none⟩) := filled_base hA (by kernel_rfl) b4
    have hw : Region.wanted o (yielded (regOf Tryd.f18 7) A.tmps) = true := wanted_free hg
    refine step_pure (v := .pointer (some ⟨BX, 3, none⟩)) hk hC hw ?_ rfl
    unfold execOp
    simp only [ho1]
    generalize A.eval = ρ at x4 ⊢
    simp [go_sem, x4]
  | 5, _ =>
    have ho1 := opIs ho (p := .load 56 (.tmp 58)) (by kernel_rfl)
    have hg := guardIs ho (p := none) (by kernel_rfl)
    intro e A w hA hC hp K hk
    have x58 : A.eval (.tmp 58) = .pointer (some ⟨BX, 3, none⟩) := op_tmp hA hp 58 4 (by kernel_rfl) (by kernel_rfl) (by kernel_rfl) (hz _ rfl)
    have hw : Region.wanted o (yielded (regOf Tryd.f18 7) A.tmps) = true := wanted_free hg
    have e1 := Blk.cell (j := 3) ((hC.block BX (lt_of_block hBX)).trans hBX) rfl
    refine step_pure (v := .slice (some ⟨b, of, none⟩) 7 vc) hk hC hw ?_ rfl
    unfold execOp
    simp only [ho1]
    skip
    generalize A.eval = ρ at x58 ⊢
    simp [go_sem, x58, e1]
  | 6, _ =>
    have ho1 := opIs ho (p := .indexAddr 56 (.tmp 59) (.const (.int .i64 5))) (by kernel_rfl)
    have hg := guardIs ho (p := none) (by kernel_rfl)
    intro e A w hA hC hp K hk
    have x59 : A.eval (.tmp 59) = .slice (some ⟨b, of, none⟩) 7 vc := op_tmp hA hp 59 5 (by kernel_rfl) (by kernel_rfl) (by kernel_rfl) (hz _ rfl)
    have hw : Region.wanted o (yielded (regOf Tryd.f18 7) A.tmps) = true := wanted_free hg
    refine step_pure (v := .pointer (some ⟨b, of + 20, none⟩)) hk hC hw ?_ rfl
    unfold execOp
    simp only [ho1]
    have xc : ∀ v, A.eval (.const v) = v := fun _ => rfl
    generalize A.eval = ρ at x59 xc ⊢
    simp [go_sem, x59, xc]
  | 7, _ =>
    have ho1 := opIs ho (p := .fieldAddr 58 (.tmp 60) 3) (by kernel_rfl)
    have hg := guardIs ho (p := none) (by kernel_rfl)
    intro e A w hA hC hp K hk
    have x60 : A.eval (.tmp 60) = .pointer (some ⟨b, of + 20, none⟩) := op_tmp hA hp 60 6 (by kernel_rfl) (by kernel_rfl) (by kernel_rfl) (hz _ rfl)
    have hw : Region.wanted o (yielded (regOf Tryd.f18 7) A.tmps) = true := wanted_free hg
    refine step_pure (v := .pointer (some ⟨b, of + 23, none⟩)) hk hC hw ?_ rfl
    unfold execOp
    simp only [ho1]
    generalize A.eval = ρ at x60 ⊢
    simp [go_sem, x60]
  | 8, _ =>
    have ho1 := opIs ho (p := .load 56 (.tmp 61)) (by kernel_rfl)
    have hg := guardIs ho (p := none) (by kernel_rfl)
    intro e A w hA hC hp K hk
    have x61 : A.eval (.tmp 61) = .pointer (some ⟨b, of + 23, none⟩) := op_tmp hA hp 61 7 (by kernel_rfl) (by kernel_rfl) (by kernel_rfl) (hz _ rfl)
    have hw : Region.wanted o (yielded (regOf Tryd.f18 7) A.tmps) = true := wanted_free hg
    have e0 := (World.cell?_of_block (a := ⟨b, of + 23, none⟩) (hC.block b hb3)).trans hc3
    refine step_pure (v := .slice ea el.length ec) hk hC hw ?_ rfl
    unfold execOp
    simp only [ho1]
    skip
    generalize A.eval = ρ at x61 ⊢
    simp [go_sem, x61, e0]
  | 9, _ =>
    have ho1 := opIs ho (p := .call { callee := (.builtin .len), args := #[(.tmp 62)], argTypes := #[56] }) (by kernel_rfl)
    have hg := guardIs ho (p := none) (by kernel_rfl)
    intro e A w hA hC hp K hk
    have x62 : A.eval (.tmp 62) = .slice ea el.length ec := op_tmp hA hp 62 8 (by kernel_rfl) (by kernel_rfl) (by kernel_rfl) (hz _ rfl)
    have hw : Region.wanted o (yielded (regOf Tryd.f18 7) A.tmps) = true := wanted_free hg
    refine step_pure (v := .int .i64 (el.length : Int)) hk hC hw ?_ rfl
    unfold execOp
    simp only [ho1]
    generalize A.eval = ρ at x62 ⊢
    simp [go_sem, x62]
  | 10, _ =>
    have ho1 := opIs ho (p := .call { callee := (.value (.func 46)), args := #[(.tmp 57), (.tmp 63)], argTypes := #[58, 3] }) (by kernel_rfl)
    have hg := guardIs ho (p := none) (by kernel_rfl)
    intro e A w hA hC hp K hk
    have x57 : A.eval (.tmp 57) = .agg #[.int .i64 ek, .int .i64 en, .string es, .slice ea el.length ec] := op_tmp hA hp 57 3 (by kernel_rfl) (by kernel_rfl) (by kernel_rfl) (hz _ rfl)
    have x63 : A.eval (.tmp 63) = .int .i64 (el.length : Int) := op_tmp hA hp 63 9 (by kernel_rfl) (by kernel_rfl) (by kernel_rfl) (hz _ rfl)
    have hw : Region.wanted o (yielded (regOf Tryd.f18 7) A.tmps) = true := wanted_free hg
    refine step_call (f := 46) (args := #[.agg #[.int .i64 ek, .int .i64 en, .string es, .slice ea el.length ec], .int .i64 (el.length : Int)]) hk hw ?_ ?_
    · unfold execOp
      simp only [ho1]
      have xf : ∀ f, A.eval (.func f) = .func (.func f) #[] #[] := fun _ => rfl
      generalize A.eval = ρ at x57 x63 xf ⊢
      simp [go_sem, xf, x57, x63]
    · refine (hcall w hC).mono ?_
      rintro en' w' ⟨hb', hcase⟩
      have key : ∃ a n c, en' = .returned (.tuple #[.slice a n c, .bool B]) ∧ (B = true → n = (el.map (fun x => cl x.n)).length ∧ w'.ownsRow w1.heap.size 3 1 (.slice a n c) n (i64s (el.map (fun x => cl x.n)))) := by
        rcases hcase with ⟨rfl, a, n, c, rfl⟩ | ⟨rfl, a, c, rfl, hown⟩
        · exact ⟨a, n, c, rfl, fun h => by cases h⟩
        · exact ⟨a, _, c, rfl, fun _ => ⟨rfl, own_base hown hC.size⟩⟩
      obtain ⟨a, n, c, rfl, hq⟩ := key
      exact ⟨_, rfl, ⟨a, n, c, rfl, hq⟩, below_then hC hb' hC.size, fun j u _ _ _ _ h => wgn_keep BX b of vn vt vc ek en es ea el ec B w1 j u w _ hb' h⟩
  | 11, _ =>
    have ho1 := opIs ho (p := .move (.tmp 64)) (by kernel_rfl)
    have hg := guardIs ho (p := none) (by kernel_rfl)
    intro e A w hA hC hp K hk
    have x64 := op_tmp hA hp 64 10 (by kernel_rfl) (by kernel_rfl) (by kernel_rfl) (hz _ rfl)
    have hw : Region.wanted o (yielded (regOf Tryd.f18 7) A.tmps) = true := wanted_free hg
    obtain ⟨a, n, c, x64, hq⟩ := x64
    exact step_pure hk hC hw (run_move ho1 x64 w) ⟨a, n, c, rfl, hq⟩
  | 12, _ =>
    have ho1 := opIs ho (p := .extract (.tmp 53) 0) (by kernel_rfl)
    have hg := guardIs ho (p := none) (by kernel_rfl)
    intro e A w hA hC hp K hk
    have x53 := op_tmp hA hp 53 11 (by kernel_rfl) (by kernel_rfl) (by kernel_rfl) (hz _ rfl)
    have hw : Region.wanted o (yielded (regOf Tryd.f18 7) A.tmps) = true := wanted_free hg
    obtain ⟨a, n, c, x53, hq⟩ := x53
    exact step_pure hk hC hw (run_extract ho1 x53 rfl w) ⟨a, n, c, rfl, hq⟩
  | 13, _ =>
    have ho1 := opIs ho (p := .extract (.tmp 53) 1) (by kernel_rfl)
    have hg := guardIs ho (p := none) (by kernel_rfl)
    intro e A w hA hC hp K hk
    have x53 := op_tmp hA hp 53 11 (by kernel_rfl) (by kernel_rfl) (by kernel_rfl) (hz _ rfl)
    have hw : Region.wanted o (yielded (regOf Tryd.f18 7) A.tmps) = true := wanted_free hg
    obtain ⟨a, n, c, x53, hq⟩ := x53
    exact step_pure hk hC hw (run_extract ho1 x53 rfl w) rfl
  | 14, _ =>
    have ho1 := opIs ho (p := .assign (.tmp 65)) (by kernel_rfl)
    have hg := guardIs ho (p := none) (by kernel_rfl)
    intro e A w hA hC hp K hk
    have x65 := op_tmp hA hp 65 12 (by kernel_rfl) (by kernel_rfl) (by kernel_rfl) (hz _ rfl)
    have hw : Region.wanted o (yielded (regOf Tryd.f18 7) A.tmps) = true := wanted_free hg
    obtain ⟨a, n, c, x65, hq⟩ := x65
    exact step_pure hk hC hw (run_assign ho1 x65 w) ⟨a, n, c, rfl, hq⟩
  | 15, _ =>
    have ho1 := opIs ho (p := .assign (.tmp 66)) (by kernel_rfl)
    have hg := guardIs ho (p := none) (by kernel_rfl)
    intro e A w hA hC hp K hk
    have x66 : A.eval (.tmp 66) = .bool B := op_tmp hA hp 66 13 (by kernel_rfl) (by kernel_rfl) (by kernel_rfl) (hz _ rfl)
    have hw : Region.wanted o (yielded (regOf Tryd.f18 7) A.tmps) = true := wanted_free hg
    exact step_pure hk hC hw (run_assign ho1 x66 w) rfl
  | _ + 16, h => exact absurd h (by omega)
end Go.Proofs.YtboohpkmllelgaaDoor

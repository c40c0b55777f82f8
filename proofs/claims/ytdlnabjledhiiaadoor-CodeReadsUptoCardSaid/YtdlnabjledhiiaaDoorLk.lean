/-
  The walk of hornbookref01.Like at two values that are the same: it tells true. (Written by wip/mklike.py.)
-/
import Derived.Test.YtdlnabjledhiiaaDoorPvA
import Derived.Test.YtdlnabjledhiiaaDoorReg
namespace Go.Proofs.YtdlnabjledhiiaaDoor
open Go.RowKit
set_option linter.unusedVariables false

/-- What each operation of the region yields. -/
def lkrT (B2 B3 p op q oq n ix : Nat) (cp cq : Nat) (yk yn : Int) (ys : ByteArray) (yp yq : Option Addr) (ny zp zq : Nat) (w1 : World) : Nat → Value → World → Prop
  | 0, v, w => v = .pointer (some ⟨B2, 3, none⟩)
  | 1, v, w => v = .slice (some ⟨p, op, none⟩) n cp
  | 2, v, w => v = .int .i64 (ix : Int)
  | 3, v, w => v = .pointer (some ⟨p, op + ix * 4, none⟩)
  | 4, v, w => v = .agg #[.int .i64 yk, .int .i64 yn, .string ys, .slice yp ny zp]
  | 5, v, w => v = .pointer (some ⟨B3, 3, none⟩)
  | 6, v, w => v = .slice (some ⟨q, oq, none⟩) n cq
  | 7, v, w => v = .int .i64 (ix : Int)
  | 8, v, w => v = .pointer (some ⟨q, oq + ix * 4, none⟩)
  | 9, v, w => v = .agg #[.int .i64 yk, .int .i64 yn, .string ys, .slice yq ny zq]
  | 10, v, w => v = .bool true
  | 11, v, w => v = .bool false
  | _, _, _ => True
def lkrD : Nat → List Nat
  | _ => []
theorem lkr_keep (B2 B3 p op q oq n ix : Nat) (cp cq : Nat) (yk yn : Int) (ys : ByteArray) (yp yq : Option Addr) (ny zp zq : Nat) (w1 : World) : ∀ (j : Nat) (u : Value) (w w' : World), Below w.heap.size w w' → (lkrT B2 B3 p op q oq n ix cp cq yk yn ys yp yq ny zp zq w1) j u w → (lkrT B2 B3 p op q oq n ix cp cq yk yn ys yp yq ny zp zq w1) j u w'
  | 0, u, w, w', hb, h => h
  | 1, u, w, w', hb, h => h
  | 2, u, w, w', hb, h => h
  | 3, u, w, w', hb, h => h
  | 4, u, w, w', hb, h => h
  | 5, u, w, w', hb, h => h
  | 6, u, w, w', hb, h => h
  | 7, u, w, w', hb, h => h
  | 8, u, w, w', hb, h => h
  | 9, u, w, w', hb, h => h
  | 10, u, w, w', hb, h => h
  | 11, u, w, w', hb, h => h
  | _ + 12, u, w, w', hb, h => trivial
theorem lkr_free (B2 B3 p op q oq n ix : Nat) (cp cq : Nat) (yk yn : Int) (ys : ByteArray) (yp yq : Option Addr) (ny zp zq : Nat) (w1 : World) : ∀ (j : Nat) (u : Value) (w w' : World), [].contains j = false → (lkrT B2 B3 p op q oq n ix cp cq yk yn ys yp yq ny zp zq w1) j u w → (lkrT B2 B3 p op q oq n ix cp cq yk yn ys yp yq ny zp zq w1) j u w'
  | 0, u, w, w', hb, h => h
  | 1, u, w, w', hb, h => h
  | 2, u, w, w', hb, h => h
  | 3, u, w, w', hb, h => h
  | 4, u, w, w', hb, h => h
  | 5, u, w, w', hb, h => h
  | 6, u, w, w', hb, h => h
  | 7, u, w, w', hb, h => h
  | 8, u, w, w', hb, h => h
  | 9, u, w, w', hb, h => h
  | 10, u, w, w', hb, h => h
  | 11, u, w, w', hb, h => h
  | _ + 12, u, w, w', hb, h => trivial
set_option maxHeartbeats 4000000 in
theorem lkr_steps (B2 B3 p op q oq n ix : Nat) (cp cq : Nat) (yk yn : Int) (ys : ByteArray) (yp yq : Option Addr) (ny zp zq : Nat) (w1 : World) (c2 : w1.cell? ⟨B2, 3, none⟩ = some (.slice (some ⟨p, op, none⟩) n cp)) (h2 : B2 < w1.heap.size) (c3 : w1.cell? ⟨B3, 3, none⟩ = some (.slice (some ⟨q, oq, none⟩) n cq)) (h3 : B3 < w1.heap.size) (hin : ix < n) (gp0 : w1.cell? ⟨p, op + ix * 4, none⟩ = some (.int .i64 yk)) (gp1 : w1.cell? ⟨p, op + ix * 4 + 1, none⟩ = some (.int .i64 yn)) (gp2 : w1.cell? ⟨p, op + ix * 4 + 2, none⟩ = some (.string ys)) (gp3 : w1.cell? ⟨p, op + ix * 4 + 3, none⟩ = some (.slice yp ny zp)) (gp : p < w1.heap.size) (gq0 : w1.cell? ⟨q, oq + ix * 4, none⟩ = some (.int .i64 yk)) (gq1 : w1.cell? ⟨q, oq + ix * 4 + 1, none⟩ = some (.int .i64 yn)) (gq2 : w1.cell? ⟨q, oq + ix * 4 + 2, none⟩ = some (.string ys)) (gq3 : w1.cell? ⟨q, oq + ix * 4 + 3, none⟩ = some (.slice yq ny zq)) (gq : q < w1.heap.size) (IH : ∀ w, Below w1.heap.size w1 w → Calls Tryd.prog 21 #[.agg #[.int .i64 yk, .int .i64 yn, .string ys, .slice yp ny zp], .agg #[.int .i64 yk, .int .i64 yn, .string ys, .slice yq ny zq]] w (fun e w' => e = .returned (.bool true) ∧ Below w.heap.size w w')) {a : Act} (hs : a.tmps.size = 53) (b2 : a.eval (.tmp 2) = .pointer (some ⟨B2, 0, none⟩)) (b3 : a.eval (.tmp 3) = .pointer (some ⟨B3, 0, none⟩)) (b5 : a.eval (.tmp 5) = .int .i64 (ix : Int)) : ∀ i o, (regOf Tryd.f21 6)[i]? = some o → StepOk Tryd.prog (regOf Tryd.f21 6) a (fun w => Below w1.heap.size w1 w) (lkrT B2 B3 p op q oq n ix cp cq yk yn ys yp yq ny zp zq w1) lkrD i o := by
  have hz : ∀ t, Nat.blt t 53 = true → Nat.blt t a.tmps.size = true := fun t h => by rw [hs]; exact h
  have hsz : (regOf Tryd.f21 6).size = 12 := by kernel_rfl
  refine of_index 12 hsz ?_
  intro i hii o ho
  match i, hii with
  | 0, _ =>
    have ho1 := opIs ho (p := .fieldAddr 42 (.tmp 2) 3) (by kernel_rfl)
    have hg := guardIs ho (p := none) (by kernel_rfl)
    intro e A w hA hC hp K hk
    have x2 : A.eval (.tmp 2) = .pointer (some ⟨B2, 0, none⟩) := filled_base hA (by kernel_rfl) b2
    have hw : Region.wanted o (yielded (regOf Tryd.f21 6) A.tmps) = true := wanted_free hg
    refine step_pure (v := .pointer (some ⟨B2, 3, none⟩)) hk hC hw ?_ rfl
    unfold execOp
    simp only [ho1]
    generalize A.eval = ρ at x2 ⊢
    simp [go_sem, x2]
  | 1, _ =>
    have ho1 := opIs ho (p := .load 40 (.tmp 40)) (by kernel_rfl)
    have hg := guardIs ho (p := none) (by kernel_rfl)
    intro e A w hA hC hp K hk
    have x40 : A.eval (.tmp 40) = .pointer (some ⟨B2, 3, none⟩) := op_tmp hA hp 40 0 (by kernel_rfl) (by kernel_rfl) (by kernel_rfl) (hz _ rfl)
    have hw : Region.wanted o (yielded (regOf Tryd.f21 6) A.tmps) = true := wanted_free hg
    refine step_pure (v := .slice (some ⟨p, op, none⟩) n cp) hk hC hw ?_ rfl
    unfold execOp
    simp only [ho1]
    have e1 : w.cell? ⟨B2, 3, none⟩ = some (.slice (some ⟨p, op, none⟩) n cp) := (World.cell?_of_block (hC.block _ h2)).trans c2
    generalize A.eval = ρ at x40 ⊢
    simp [go_sem, x40, e1]
  | 2, _ =>
    have ho1 := opIs ho (p := .move (.tmp 5)) (by kernel_rfl)
    have hg := guardIs ho (p := none) (by kernel_rfl)
    intro e A w hA hC hp K hk
    have x5 : A.eval (.tmp 5) = .int .i64 (ix : Int) := filled_base hA (by kernel_rfl) b5
    have hw : Region.wanted o (yielded (regOf Tryd.f21 6) A.tmps) = true := wanted_free hg
    exact step_pure hk hC hw (run_move ho1 x5 w) rfl
  | 3, _ =>
    have ho1 := opIs ho (p := .indexAddr 40 (.tmp 41) (.tmp 42)) (by kernel_rfl)
    have hg := guardIs ho (p := none) (by kernel_rfl)
    intro e A w hA hC hp K hk
    have x41 : A.eval (.tmp 41) = .slice (some ⟨p, op, none⟩) n cp := op_tmp hA hp 41 1 (by kernel_rfl) (by kernel_rfl) (by kernel_rfl) (hz _ rfl)
    have x42 : A.eval (.tmp 42) = .int .i64 (ix : Int) := op_tmp hA hp 42 2 (by kernel_rfl) (by kernel_rfl) (by kernel_rfl) (hz _ rfl)
    have hw : Region.wanted o (yielded (regOf Tryd.f21 6) A.tmps) = true := wanted_free hg
    refine step_pure (v := .pointer (some ⟨p, op + ix * 4, none⟩)) hk hC hw ?_ rfl
    unfold execOp
    simp only [ho1]
    have e1 : (ix : Int) < (n : Int) := by omega
    generalize A.eval = ρ at x41 x42 ⊢
    simp [go_sem, x41, x42, e1]
  | 4, _ =>
    have ho1 := opIs ho (p := .load 42 (.tmp 43)) (by kernel_rfl)
    have hg := guardIs ho (p := none) (by kernel_rfl)
    intro e A w hA hC hp K hk
    have x43 : A.eval (.tmp 43) = .pointer (some ⟨p, op + ix * 4, none⟩) := op_tmp hA hp 43 3 (by kernel_rfl) (by kernel_rfl) (by kernel_rfl) (hz _ rfl)
    have hw : Region.wanted o (yielded (regOf Tryd.f21 6) A.tmps) = true := wanted_free hg
    refine step_pure (v := .agg #[.int .i64 yk, .int .i64 yn, .string ys, .slice yp ny zp]) hk hC hw ?_ rfl
    unfold execOp
    simp only [ho1]
    have e0 : w.cell? ⟨p, op + ix * 4, none⟩ = some (.int .i64 yk) := (World.cell?_of_block (hC.block _ gp)).trans gp0
    have e1 : w.cell? ⟨p, op + ix * 4 + 1, none⟩ = some (.int .i64 yn) := (World.cell?_of_block (hC.block _ gp)).trans gp1
    have e2 : w.cell? ⟨p, op + ix * 4 + 2, none⟩ = some (.string ys) := (World.cell?_of_block (hC.block _ gp)).trans gp2
    have e3 : w.cell? ⟨p, op + ix * 4 + 3, none⟩ = some (.slice yp ny zp) := (World.cell?_of_block (hC.block _ gp)).trans gp3
    generalize A.eval = ρ at x43 ⊢
    simp [go_sem, x43, e0, e1, e2, e3]
  | 5, _ =>
    have ho1 := opIs ho (p := .fieldAddr 42 (.tmp 3) 3) (by kernel_rfl)
    have hg := guardIs ho (p := none) (by kernel_rfl)
    intro e A w hA hC hp K hk
    have x3 : A.eval (.tmp 3) = .pointer (some ⟨B3, 0, none⟩) := filled_base hA (by kernel_rfl) b3
    have hw : Region.wanted o (yielded (regOf Tryd.f21 6) A.tmps) = true := wanted_free hg
    refine step_pure (v := .pointer (some ⟨B3, 3, none⟩)) hk hC hw ?_ rfl
    unfold execOp
    simp only [ho1]
    generalize A.eval = ρ at x3 ⊢
    simp [go_sem, x3]
  | 6, _ =>
    have ho1 := opIs ho (p := .load 40 (.tmp 45)) (by kernel_rfl)
    have hg := guardIs ho (p := none) (by kernel_rfl)
    intro e A w hA hC hp K hk
    have x45 : A.eval (.tmp 45) = .pointer (some ⟨B3, 3, none⟩) := op_tmp hA hp 45 5 (by kernel_rfl) (by kernel_rfl) (by kernel_rfl) (hz _ rfl)
    have hw : Region.wanted o (yielded (regOf Tryd.f21 6) A.tmps) = true := wanted_free hg
    refine step_pure (v := .slice (some ⟨q, oq, none⟩) n cq) hk hC hw ?_ rfl
    unfold execOp
    simp only [ho1]
    have e1 : w.cell? ⟨B3, 3, none⟩ = some (.slice (some ⟨q, oq, none⟩) n cq) := (World.cell?_of_block (hC.block _ h3)).trans c3
    generalize A.eval = ρ at x45 ⊢
    simp [go_sem, x45, e1]
  | 7, _ =>
    have ho1 := opIs ho (p := .move (.tmp 5)) (by kernel_rfl)
    have hg := guardIs ho (p := none) (by kernel_rfl)
    intro e A w hA hC hp K hk
    have x5 : A.eval (.tmp 5) = .int .i64 (ix : Int) := filled_base hA (by kernel_rfl) b5
    have hw : Region.wanted o (yielded (regOf Tryd.f21 6) A.tmps) = true := wanted_free hg
    exact step_pure hk hC hw (run_move ho1 x5 w) rfl
  | 8, _ =>
    have ho1 := opIs ho (p := .indexAddr 40 (.tmp 46) (.tmp 47)) (by kernel_rfl)
    have hg := guardIs ho (p := none) (by kernel_rfl)
    intro e A w hA hC hp K hk
    have x46 : A.eval (.tmp 46) = .slice (some ⟨q, oq, none⟩) n cq := op_tmp hA hp 46 6 (by kernel_rfl) (by kernel_rfl) (by kernel_rfl) (hz _ rfl)
    have x47 : A.eval (.tmp 47) = .int .i64 (ix : Int) := op_tmp hA hp 47 7 (by kernel_rfl) (by kernel_rfl) (by kernel_rfl) (hz _ rfl)
    have hw : Region.wanted o (yielded (regOf Tryd.f21 6) A.tmps) = true := wanted_free hg
    refine step_pure (v := .pointer (some ⟨q, oq + ix * 4, none⟩)) hk hC hw ?_ rfl
    unfold execOp
    simp only [ho1]
    have e1 : (ix : Int) < (n : Int) := by omega
    generalize A.eval = ρ at x46 x47 ⊢
    simp [go_sem, x46, x47, e1]
  | 9, _ =>
    have ho1 := opIs ho (p := .load 42 (.tmp 48)) (by kernel_rfl)
    have hg := guardIs ho (p := none) (by kernel_rfl)
    intro e A w hA hC hp K hk
    have x48 : A.eval (.tmp 48) = .pointer (some ⟨q, oq + ix * 4, none⟩) := op_tmp hA hp 48 8 (by kernel_rfl) (by kernel_rfl) (by kernel_rfl) (hz _ rfl)
    have hw : Region.wanted o (yielded (regOf Tryd.f21 6) A.tmps) = true := wanted_free hg
    refine step_pure (v := .agg #[.int .i64 yk, .int .i64 yn, .string ys, .slice yq ny zq]) hk hC hw ?_ rfl
    unfold execOp
    simp only [ho1]
    have e0 : w.cell? ⟨q, oq + ix * 4, none⟩ = some (.int .i64 yk) := (World.cell?_of_block (hC.block _ gq)).trans gq0
    have e1 : w.cell? ⟨q, oq + ix * 4 + 1, none⟩ = some (.int .i64 yn) := (World.cell?_of_block (hC.block _ gq)).trans gq1
    have e2 : w.cell? ⟨q, oq + ix * 4 + 2, none⟩ = some (.string ys) := (World.cell?_of_block (hC.block _ gq)).trans gq2
    have e3 : w.cell? ⟨q, oq + ix * 4 + 3, none⟩ = some (.slice yq ny zq) := (World.cell?_of_block (hC.block _ gq)).trans gq3
    generalize A.eval = ρ at x48 ⊢
    simp [go_sem, x48, e0, e1, e2, e3]
  | 10, _ =>
    have ho1 := opIs ho (p := .call { callee := (.value (.func 21)), args := #[(.tmp 44), (.tmp 49)], argTypes := #[42, 42] }) (by kernel_rfl)
    have hg := guardIs ho (p := none) (by kernel_rfl)
    intro e A w hA hC hp K hk
    have x44 : A.eval (.tmp 44) = .agg #[.int .i64 yk, .int .i64 yn, .string ys, .slice yp ny zp] := op_tmp hA hp 44 4 (by kernel_rfl) (by kernel_rfl) (by kernel_rfl) (hz _ rfl)
    have x49 : A.eval (.tmp 49) = .agg #[.int .i64 yk, .int .i64 yn, .string ys, .slice yq ny zq] := op_tmp hA hp 49 9 (by kernel_rfl) (by kernel_rfl) (by kernel_rfl) (hz _ rfl)
    have hw : Region.wanted o (yielded (regOf Tryd.f21 6) A.tmps) = true := wanted_free hg
    refine step_call (f := 21) (args := #[.agg #[.int .i64 yk, .int .i64 yn, .string ys, .slice yp ny zp], .agg #[.int .i64 yk, .int .i64 yn, .string ys, .slice yq ny zq]]) hk hw ?_ ?_
    · unfold execOp
      simp only [ho1]
      have xf : ∀ f, A.eval (.func f) = .func (.func f) #[] #[] := fun _ => rfl
      generalize A.eval = ρ at x44 x49 xf ⊢
      simp [go_sem, xf, x44, x49]
    · refine (IH _ hC).mono ?_
      rintro en w' ⟨rfl, hb'⟩
      exact ⟨_, rfl, rfl, hC.trans (Below.lower hb' hC.size), fun j u _ _ _ _ h => lkr_keep B2 B3 p op q oq n ix cp cq yk yn ys yp yq ny zp zq w1 j u w _ hb' h⟩
  | 11, _ =>
    have ho1 := opIs ho (p := .unOp .not 4 (.tmp 50)) (by kernel_rfl)
    have hg := guardIs ho (p := none) (by kernel_rfl)
    intro e A w hA hC hp K hk
    have x50 : A.eval (.tmp 50) = .bool true := op_tmp hA hp 50 10 (by kernel_rfl) (by kernel_rfl) (by kernel_rfl) (hz _ rfl)
    have hw : Region.wanted o (yielded (regOf Tryd.f21 6) A.tmps) = true := wanted_free hg
    refine step_pure (v := .bool false) hk hC hw ?_ rfl
    unfold execOp
    simp only [ho1]
    generalize A.eval = ρ at x50 ⊢
    simp [go_sem, x50]
  | _ + 12, h => exact absurd h (by omega)

set_option maxRecDepth 20000 in
set_option maxHeartbeats 4000000 in
theorem like1 (k n : Int) (s : ByteArray) (a a' : Option Addr) (c c' : Nat) (l : List V) (S S' : Nat → Prop) (w : World) (hS : Hid (∀ p, S p → p < w.heap.size)) (hS' : Hid (∀ p, S' p → p < w.heap.size)) (hcm : l.length ≤ 4611686018427387904)
    (hc : l.length ≤ c) (hc' : l.length ≤ c') (hall : Hid (VAll w S a 0 l)) (hall' : Hid (VAll w S' a' 0 l))
    (IH : Hid (∀ y ∈ l, ∀ (cs cs' : List Value) (w : World), (∀ p, S p → p < w.heap.size) → (∀ p, S' p → p < w.heap.size) → V.At w S y cs → V.At w S' y cs' →
      Calls Tryd.prog 21 #[.agg cs.toArray, .agg cs'.toArray] w (fun e w' => e = .returned (.bool true) ∧ Below w.heap.size w w'))) :
    Calls Tryd.prog 21 #[.agg #[.int .i64 k, .int .i64 n, .string s, .slice a l.length c], .agg #[.int .i64 k, .int .i64 n, .string s, .slice a' l.length c']] w (fun e w' => e = .returned (.bool true) ∧ Below w.heap.size w w') := by
  have HM := Lib.hid ((Four.new w 42 (.int .i64 k) (.int .i64 n) (.string s) (.slice a l.length c)).alloc (.cells #[.int .i64 k, .int .i64 n, .string s, .slice a' l.length c'] 42))
  have HN : Hid (Four ((w.alloc (.cells #[.int .i64 k, .int .i64 n, .string s, .slice a l.length c] 42)).alloc (.cells #[.int .i64 k, .int .i64 n, .string s, .slice a' l.length c'] 42)) (w.heap.size + 1) 42 (.int .i64 k) (.int .i64 n) (.string s) (.slice a' l.length c')) := Lib.hid (by have := Four.new (w.alloc (.cells #[.int .i64 k, .int .i64 n, .string s, .slice a l.length c] 42)) 42 (.int .i64 k) (.int .i64 n) (.string s) (.slice a' l.length c'); rwa [World.size_alloc] at this)
  have HB := Lib.hid (((Below.refl w.heap.size w).alloc (Nat.le_refl _) (.cells #[.int .i64 k, .int .i64 n, .string s, .slice a l.length c] 42)).alloc (by simp) (.cells #[.int .i64 k, .int .i64 n, .string s, .slice a' l.length c'] 42))
  have m0 := HM.out.c0
  have m1 := HM.out.c1
  have m2 := HM.out.c2
  have m3 := HM.out.c3
  have n0 := HN.out.c0
  have n1 := HN.out.c1
  have n2 := HN.out.c2
  have n3 := HN.out.c3
  go_enter Tryd.func21, Tryd.ntmps21
  go_wp2_with fail
  clear m0 m1 m2 m3 n0 n1 n2 n3
  go_loopg [37] l.length (fun gk v wr => ∃ (i : Nat), i ≤ l.length ∧ gk = l.length - i ∧ v = .int .i64 (i : Int) ∧ Hid (Four wr w.heap.size 42 (.int .i64 k) (.int .i64 n) (.string s) (.slice a l.length c)) ∧ Hid (Four wr (w.heap.size + 1) 42 (.int .i64 k) (.int .i64 n) (.string s) (.slice a' l.length c')) ∧ Hid (Below w.heap.size w wr))
  case atStart => exact ⟨0, Nat.zero_le _, rfl, rfl, HM, HN, HB⟩
  case round =>
    clear HM HN HB
    obtain ⟨i, hi, rfl, rfl, HM, HN, HB⟩ := hrel
    by_cases hlt : i < l.length
    · have hlti : (i : Int) < (l.length : Int) := by omega
      obtain ⟨b1, o1, cs1, rfl, hb1, hat1, hcell1⟩ := VAll.at 0 l hall.out i hlt
      obtain ⟨b2, o2, cs2, rfl, hb2, hat2, hcell2⟩ := VAll.at 0 l hall'.out i hlt
      have hih := IH.out l[i] (List.getElem_mem hlt)
      generalize l[i] = y at *
      have ht1 := hat1
      have ht2 := hat2
      obtain ⟨yk, yn, ys, yl⟩ := y
      simp only [V.At] at hat1 hat2
      obtain ⟨ya, yc, rfl, -, -, -⟩ := hat1
      obtain ⟨za, zc, rfl, -, -, -⟩ := hat2
      have g1 : ∀ j u, [Value.int .i64 yk, .int .i64 yn, .string ys, .slice ya yl.length yc][j]? = some u → wr.cell? ⟨b1, o1 + i * 4 + j, none⟩ = some u := fun j u hj => by
        have := hcell1 j u hj
        rw [Nat.zero_add] at this
        exact (World.cell?_of_block (HB.out.block b1 (hS.out b1 hb1))).trans this
      have g2 : ∀ j u, [Value.int .i64 yk, .int .i64 yn, .string ys, .slice za yl.length zc][j]? = some u → wr.cell? ⟨b2, o2 + i * 4 + j, none⟩ = some u := fun j u hj => by
        have := hcell2 j u hj
        rw [Nat.zero_add] at this
        exact (World.cell?_of_block (HB.out.block b2 (hS'.out b2 hb2))).trans this
      have HIH : Hid (∀ w', Below wr.heap.size wr w' → Calls Tryd.prog 21 #[.agg #[.int .i64 yk, .int .i64 yn, .string ys, .slice ya yl.length yc], .agg #[.int .i64 yk, .int .i64 yn, .string ys, .slice za yl.length zc]] w' (fun e w'' => e = .returned (.bool true) ∧ Below w'.heap.size w' w'')) := by
        refine Lib.hid fun w' hw' => ?_
        have hb : Below w.heap.size w w' := HB.out.trans (Below.lower hw' HB.out.size)
        exact hih _ _ w' (fun p hp => Nat.lt_of_lt_of_le (hS.out p hp) hb.size) (fun p hp => Nat.lt_of_lt_of_le (hS'.out p hp) hb.size) (V.At.move (fun _ hp => hp) (fun p hp => hb.block p (hS.out p hp)) _ _ ht1) (V.At.move (fun _ hp => hp) (fun p hp => hb.block p (hS'.out p hp)) _ _ ht2)
      have g10 := Lib.hid (g1 0 _ rfl)
      have g11 := Lib.hid (g1 1 _ rfl)
      have g12 := Lib.hid (g1 2 _ rfl)
      have g13 := Lib.hid (g1 3 _ rfl)
      have g20 := Lib.hid (g2 0 _ rfl)
      have g21 := Lib.hid (g2 1 _ rfl)
      have g22 := Lib.hid (g2 2 _ rfl)
      have g23 := Lib.hid (g2 3 _ rfl)
      have hb1w := hS.out b1 hb1
      have hb2w := hS'.out b2 hb2
      have hl1 := lt_of_block HM.out
      have hl2 := lt_of_block HN.out
      clear hcell1 hcell2 hih ht1 ht2 g1 g2 hb1 hb2
      go_wp2_with fail
      refine wp_region_set (regOf Tryd.f21 6) [some 40, some 41, some 42, some 43, some 44, some 45, some 46, some 47, some 48, some 49, some 50, some 51] (lkrT w.heap.size (w.heap.size + 1) b1 o1 b2 o2 l.length i c c' yk yn ys ya za yl.length yc zc wr) (fun w' => Below wr.heap.size wr w') lkrD (by kernel_rfl) (by kernel_rfl) (by kernel_rfl) (by kernel_rfl) (by kernel_rfl) ((Below.refl _ _).drew)
        (lkr_steps w.heap.size (w.heap.size + 1) b1 o1 b2 o2 l.length i c c' yk yn ys ya za yl.length yc zc wr HM.out.c3 hl1 HN.out.c3 hl2 hlt g10.out g11.out g12.out g13.out (by omega) g20.out g21.out g22.out g23.out (by omega) HIH.out (by kernel_rfl) (by kernel_rfl) (by kernel_rfl) (by kernel_rfl)) ?_
      intro vs w2 hn hCw2 hT
      replace hn : vs.length = 12 := hn
      obtain ⟨v0, vs1, rfl, hn1⟩ := len_cons hn
      obtain ⟨v1, vs2, rfl, hn2⟩ := len_cons hn1
      obtain ⟨v2, vs3, rfl, hn3⟩ := len_cons hn2
      obtain ⟨v3, vs4, rfl, hn4⟩ := len_cons hn3
      obtain ⟨v4, vs5, rfl, hn5⟩ := len_cons hn4
      obtain ⟨v5, vs6, rfl, hn6⟩ := len_cons hn5
      obtain ⟨v6, vs7, rfl, hn7⟩ := len_cons hn6
      obtain ⟨v7, vs8, rfl, hn8⟩ := len_cons hn7
      obtain ⟨v8, vs9, rfl, hn9⟩ := len_cons hn8
      obtain ⟨v9, vs10, rfl, hn10⟩ := len_cons hn9
      obtain ⟨v10, vs11, rfl, hn11⟩ := len_cons hn10
      obtain ⟨v11, vs12, rfl, hn12⟩ := len_cons hn11
      obtain rfl := List.eq_nil_of_length_eq_zero hn12
      clear hn hn1 hn2 hn3 hn4 hn5 hn6 hn7 hn8 hn9 hn10 hn11 hn12
      obtain rfl : v0 = .pointer (some ⟨w.heap.size, 3, none⟩) := hT 0 v0 rfl (by kernel_rfl)
      obtain rfl : v1 = .slice (some ⟨b1, o1, none⟩) l.length c := hT 1 v1 rfl (by kernel_rfl)
      obtain rfl : v2 = .int .i64 (i : Int) := hT 2 v2 rfl (by kernel_rfl)
      obtain rfl : v3 = .pointer (some ⟨b1, o1 + i * 4, none⟩) := hT 3 v3 rfl (by kernel_rfl)
      obtain rfl : v4 = .agg #[.int .i64 yk, .int .i64 yn, .string ys, .slice ya yl.length yc] := hT 4 v4 rfl (by kernel_rfl)
      obtain rfl : v5 = .pointer (some ⟨w.heap.size + 1, 3, none⟩) := hT 5 v5 rfl (by kernel_rfl)
      obtain rfl : v6 = .slice (some ⟨b2, o2, none⟩) l.length c' := hT 6 v6 rfl (by kernel_rfl)
      obtain rfl : v7 = .int .i64 (i : Int) := hT 7 v7 rfl (by kernel_rfl)
      obtain rfl : v8 = .pointer (some ⟨b2, o2 + i * 4, none⟩) := hT 8 v8 rfl (by kernel_rfl)
      obtain rfl : v9 = .agg #[.int .i64 yk, .int .i64 yn, .string ys, .slice za yl.length zc] := hT 9 v9 rfl (by kernel_rfl)
      obtain rfl : v10 = .bool true := hT 10 v10 rfl (by kernel_rfl)
      obtain rfl : v11 = .bool false := hT 11 v11 rfl (by kernel_rfl)
      clear hT
      simp only [puts, Act.put, List.setIfInBounds_toArray, List.set_cons_succ, List.set_cons_zero]

      have HM2 : Hid (Four w2 w.heap.size 42 (.int .i64 k) (.int .i64 n) (.string s) (.slice (some ⟨b1, o1, none⟩) l.length c)) := Lib.hid ((hCw2.block _ hl1).trans HM.out)
      have HN2 : Hid (Four w2 (w.heap.size + 1) 42 (.int .i64 k) (.int .i64 n) (.string s) (.slice (some ⟨b2, o2, none⟩) l.length c')) := Lib.hid ((hCw2.block _ hl2).trans HN.out)
      have HB2 := Lib.hid (HB.out.trans (Below.lower hCw2 HB.out.size))
      clear hCw2 HM HN HB HIH g10 g11 g12 g13 g20 g21 g22 g23
      go_wp2_with fail
      go_roundg (l.length - (i + 1))
      case rel => exact ⟨i + 1, hlt, rfl, by go_num, HM2, HN2, HB2⟩
      case measure => omega
    · obtain rfl : i = l.length := by omega
      go_wp2_with fail
      go_ret
      exact ⟨rfl, HB.out⟩

theorem like_same_any (S S' : Nat → Prop) : ∀ (f : Nat) (x : V), x.cnt ≤ f → x.cnt ≤ 4611686018427387904 → ∀ (cs cs' : List Value) (w : World), (∀ p, S p → p < w.heap.size) → (∀ p, S' p → p < w.heap.size) → V.At w S x cs → V.At w S' x cs' →
    Calls Tryd.prog 21 #[.agg cs.toArray, .agg cs'.toArray] w (fun e w' => e = .returned (.bool true) ∧ Below w.heap.size w w')
  | 0, .mk k n s l, hf, _, _, _, _, _, _, _, _ => by simp only [V.cnt] at hf; omega
  | f + 1, .mk k n s l, hf, hcnt, cs, cs', w, hS, hS', hat, hat' => by
    simp only [V.cnt] at hf hcnt
    simp only [V.At] at hat hat'
    obtain ⟨a, c, rfl, hc, -, hall⟩ := hat
    obtain ⟨a', c', rfl, hc', -, hall'⟩ := hat'
    refine like1 k n s a a' c c' l S S' w (Lib.hid hS) (Lib.hid hS') (by have := cntAll_ge l; omega) hc hc' (Lib.hid hall) (Lib.hid hall') (Lib.hid ?_)
    intro y hy cs2 cs3 w2 h1 h2 h3 h4
    exact like_same_any S S' f y (by have := cntAll_mem hy; omega) (by have := cntAll_mem hy; omega) cs2 cs3 w2 h1 h2 h3 h4
end Go.Proofs.YtdlnabjledhiiaaDoor

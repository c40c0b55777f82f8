/-
  The steps of the drawn regions of the law NetWays; conditions: the lengths that the law asks first.
-/
import Derived.Test.YtdlnabjledhiiaaNetAlive
import Derived.Test.YtdlnabjledhiiaaReg
import Derived.IntWalk
namespace Go.Proofs.Ytdlnabjledhiiaa
open Go.RowKit
set_option linter.unusedVariables false

/-- What each operation of the region yields. -/
def way9T (i0 : TypeInfo) (a1 a2 a3 : Option Addr) (N1 N2 c1 c2 R D n3 c3 : Nat) (xs ys : List ByteArray) (w1 : World) : Nat → Value → World → Prop
  | 0, v, w => v = .int .i64 (D : Int)
  | 1, v, w => v = .slice a2 N2 c2
  | 2, v, w => v = .int .i64 (N2 : Int)
  | 3, v, w => v = .int .i64 (R : Int)
  | 4, v, w => v = .int .i64 (D : Int)
  | 5, v, w => v = .bool false
  | 6, v, w => v = .bool false
  | 7, v, w => v = .slice a3 n3 c3
  | 8, v, w => w.ownsRow w1.heap.size 9 1 v 0 []
  | 9, v, w => v = .slice a1 N1 c1
  | 10, v, w => w.ownsRow w1.heap.size 9 1 v N1 (strs xs)
  | 11, v, w => v = .slice a2 N2 c2
  | 12, v, w => v = .int .i64 (R : Int)
  | 13, v, w => v = .slice a2 R c2
  | 14, v, w => ∃ a n c, v = .slice a n c ∧ SlAt w a n (strs (xs ++ ys.take R))
  | 15, v, w => v = .bool true
  | 16, v, w => v = .bool false
  | 17, v, w => v = .bool false
  | _, _, _ => True
def way9D : Nat → List Nat
  | 10 => [8]
  | 14 => [10]
  | _ => []
theorem way9_keep (i0 : TypeInfo) (a1 a2 a3 : Option Addr) (N1 N2 c1 c2 R D n3 c3 : Nat) (xs ys : List ByteArray) (w1 : World) : ∀ (j : Nat) (u : Value) (w w' : World), Below w.heap.size w w' → (way9T i0 a1 a2 a3 N1 N2 c1 c2 R D n3 c3 xs ys w1) j u w → (way9T i0 a1 a2 a3 N1 N2 c1 c2 R D n3 c3 xs ys w1) j u w'
  | 8, u, w, w', hb, h => h.kept (grown_below hb none) (by by_cases hh : u.ownBlock = none <;> simp [hh])
  | 10, u, w, w', hb, h => h.kept (grown_below hb none) (by by_cases hh : u.ownBlock = none <;> simp [hh])
  | 14, u, w, w', hb, h => by obtain ⟨a, n, c, rfl, hs⟩ := h; exact ⟨a, n, c, rfl, hs.keep hb⟩
  | 0, u, w, w', hb, h => h
  | 1, u, w, w', hb, h => h
  | 2, u, w, w', hb, h => h
  | 3, u, w, w', hb, h => h
  | 4, u, w, w', hb, h => h
  | 5, u, w, w', hb, h => h
  | 6, u, w, w', hb, h => h
  | 7, u, w, w', hb, h => h
  | 9, u, w, w', hb, h => h
  | 11, u, w, w', hb, h => h
  | 12, u, w, w', hb, h => h
  | 13, u, w, w', hb, h => h
  | 15, u, w, w', hb, h => h
  | 16, u, w, w', hb, h => h
  | 17, u, w, w', hb, h => h
  | _ + 18, u, w, w', hb, h => trivial
theorem way9_free (i0 : TypeInfo) (a1 a2 a3 : Option Addr) (N1 N2 c1 c2 R D n3 c3 : Nat) (xs ys : List ByteArray) (w1 : World) : ∀ (j : Nat) (u : Value) (w w' : World), [8, 10, 14].contains j = false → (way9T i0 a1 a2 a3 N1 N2 c1 c2 R D n3 c3 xs ys w1) j u w → (way9T i0 a1 a2 a3 N1 N2 c1 c2 R D n3 c3 xs ys w1) j u w'
  | 8, u, w, w', hb, h => by cases hb
  | 10, u, w, w', hb, h => by cases hb
  | 14, u, w, w', hb, h => by cases hb
  | 0, u, w, w', hb, h => h
  | 1, u, w, w', hb, h => h
  | 2, u, w, w', hb, h => h
  | 3, u, w, w', hb, h => h
  | 4, u, w, w', hb, h => h
  | 5, u, w, w', hb, h => h
  | 6, u, w, w', hb, h => h
  | 7, u, w, w', hb, h => h
  | 9, u, w, w', hb, h => h
  | 11, u, w, w', hb, h => h
  | 12, u, w, w', hb, h => h
  | 13, u, w, w', hb, h => h
  | 15, u, w, w', hb, h => h
  | 16, u, w, w', hb, h => h
  | 17, u, w, w', hb, h => h
  | _ + 18, u, w, w', hb, h => trivial
set_option maxHeartbeats 4000000 in
theorem way9_steps (i0 : TypeInfo) (a1 a2 a3 : Option Addr) (N1 N2 c1 c2 R D n3 c3 : Nat) (xs ys : List ByteArray) (w1 : World) (hi : Try.prog.info? 9 = some i0) (hz0 : i0.zero = some (.string ⟨#[]⟩)) (hz1 : i0.size = 1) (hz2 : i0.bytes = 16) (h1 : Src w1 (.slice a1 N1 c1) (strs xs)) (h2 : Src w1 (.slice a2 R c2) (strs (ys.take R))) (h3 : SlAt w1 a3 n3 (strs (xs ++ ys.take R))) (hx : N1 ≤ 400) (hy : N2 ≤ 400) (hR : R ≤ N2) (hR2 : N2 ≤ c2) (hD : N2 = R + D) (hN1 : N1 = (strs xs).length) (hLR : (strs (ys.take R)).length ≤ 400) (hlen : (xs ++ ys.take R).length ≤ 9223372036854775807) {a : Act} (hs : a.tmps.size = 159) (b9 : a.eval (.tmp 9) = .int .i64 (D : Int)) (b1 : a.eval (.tmp 1) = .slice a2 N2 c2) (b7 : a.eval (.tmp 7) = .int .i64 (R : Int)) (b8 : a.eval (.tmp 8) = .slice a3 n3 c3) (b0 : a.eval (.tmp 0) = .slice a1 N1 c1) : ∀ i o, (regOf Try.f3 9)[i]? = some o → StepOk Try.prog (regOf Try.f3 9) a (fun w => Below w1.heap.size w1 w) (way9T i0 a1 a2 a3 N1 N2 c1 c2 R D n3 c3 xs ys w1) way9D i o := by
  have hz : ∀ t, Nat.blt t 159 = true → Nat.blt t a.tmps.size = true := fun t h => by rw [hs]; exact h
  have hsz : (regOf Try.f3 9).size = 18 := by kernel_rfl
  refine of_index 18 hsz ?_
  intro i hii o ho
  match i, hii with
  | 0, _ =>
    have ho1 := opIs ho (p := .move (.tmp 9)) (by kernel_rfl)
    have hg := guardIs ho (p := none) (by kernel_rfl)
    intro e A w hA hC hp K hk
    have x9 : A.eval (.tmp 9) = .int .i64 (D : Int) := filled_base hA (by kernel_rfl) b9
    have hw : Region.wanted o (yielded (regOf Try.f3 9) A.tmps) = true := wanted_free hg
    exact step_pure hk hC hw (run_move ho1 x9 w) rfl
  | 1, _ =>
    have ho1 := opIs ho (p := .move (.tmp 1)) (by kernel_rfl)
    have hg := guardIs ho (p := none) (by kernel_rfl)
    intro e A w hA hC hp K hk
    have x1 : A.eval (.tmp 1) = .slice a2 N2 c2 := filled_base hA (by kernel_rfl) b1
    have hw : Region.wanted o (yielded (regOf Try.f3 9) A.tmps) = true := wanted_free hg
    exact step_pure hk hC hw (run_move ho1 x1 w) rfl
  | 2, _ =>
    have ho1 := opIs ho (p := .call { callee := (.builtin .len), args := #[(.tmp 41)], argTypes := #[22] }) (by kernel_rfl)
    have hg := guardIs ho (p := none) (by kernel_rfl)
    intro e A w hA hC hp K hk
    have x41 : A.eval (.tmp 41) = .slice a2 N2 c2 := op_tmp hA hp 41 1 (by kernel_rfl) (by kernel_rfl) (by kernel_rfl) (hz _ rfl)
    have hw : Region.wanted o (yielded (regOf Try.f3 9) A.tmps) = true := wanted_free hg
    refine step_pure (v := .int .i64 (N2 : Int)) hk hC hw ?_ rfl
    unfold execOp
    simp only [ho1]
    generalize A.eval = ρ at x41 ⊢
    simp [go_sem, x41]
  | 3, _ =>
    have ho1 := opIs ho (p := .move (.tmp 7)) (by kernel_rfl)
    have hg := guardIs ho (p := none) (by kernel_rfl)
    intro e A w hA hC hp K hk
    have x7 : A.eval (.tmp 7) = .int .i64 (R : Int) := filled_base hA (by kernel_rfl) b7
    have hw : Region.wanted o (yielded (regOf Try.f3 9) A.tmps) = true := wanted_free hg
    exact step_pure hk hC hw (run_move ho1 x7 w) rfl
  | 4, _ =>
    have ho1 := opIs ho (p := .binOp .sub 3 (.tmp 42) (.tmp 43) 3) (by kernel_rfl)
    have hg := guardIs ho (p := none) (by kernel_rfl)
    intro e A w hA hC hp K hk
    have x42 : A.eval (.tmp 42) = .int .i64 (N2 : Int) := op_tmp hA hp 42 2 (by kernel_rfl) (by kernel_rfl) (by kernel_rfl) (hz _ rfl)
    have x43 : A.eval (.tmp 43) = .int .i64 (R : Int) := op_tmp hA hp 43 3 (by kernel_rfl) (by kernel_rfl) (by kernel_rfl) (hz _ rfl)
    have hw : Region.wanted o (yielded (regOf Try.f3 9) A.tmps) = true := wanted_free hg
    refine step_pure (v := .int .i64 (D : Int)) hk hC hw ?_ rfl
    unfold execOp
    simp only [ho1]
    generalize A.eval = ρ at x42 x43 ⊢
    simp [go_sem, x42, x43, show IntKind.i64.wrap ((N2 : Int) - (R : Int)) = (D : Int) from by rw [IntWalk.i64_in _ (by omega)]; omega]
  | 5, _ =>
    have ho1 := opIs ho (p := .binOp .neq 3 (.tmp 40) (.tmp 44) 3) (by kernel_rfl)
    have hg := guardIs ho (p := none) (by kernel_rfl)
    intro e A w hA hC hp K hk
    have x40 : A.eval (.tmp 40) = .int .i64 (D : Int) := op_tmp hA hp 40 0 (by kernel_rfl) (by kernel_rfl) (by kernel_rfl) (hz _ rfl)
    have x44 : A.eval (.tmp 44) = .int .i64 (D : Int) := op_tmp hA hp 44 4 (by kernel_rfl) (by kernel_rfl) (by kernel_rfl) (hz _ rfl)
    have hw : Region.wanted o (yielded (regOf Try.f3 9) A.tmps) = true := wanted_free hg
    refine step_pure (v := .bool false) hk hC hw ?_ rfl
    unfold execOp
    simp only [ho1]
    generalize A.eval = ρ at x40 x44 ⊢
    simp [go_sem, x40, x44]
  | 6, _ =>
    have ho1 := opIs ho (p := .move (.tmp 45)) (by kernel_rfl)
    have hg := guardIs ho (p := none) (by kernel_rfl)
    intro e A w hA hC hp K hk
    have x45 : A.eval (.tmp 45) = .bool false := op_tmp hA hp 45 5 (by kernel_rfl) (by kernel_rfl) (by kernel_rfl) (hz _ rfl)
    have hw : Region.wanted o (yielded (regOf Try.f3 9) A.tmps) = true := wanted_free hg
    exact step_pure hk hC hw (run_move ho1 x45 w) rfl
  | 7, _ =>
    have ho1 := opIs ho (p := .move (.tmp 8)) (by kernel_rfl)
    have hg := guardIs ho (p := some (6, false)) (by kernel_rfl)
    intro e A w hA hC hp K hk
    have x8 : A.eval (.tmp 8) = .slice a3 n3 c3 := filled_base hA (by kernel_rfl) b8
    have xg : A.eval (.tmp 46) = .bool false := op_tmp hA hp 46 6 (by kernel_rfl) (by kernel_rfl) (by kernel_rfl) (hz _ rfl)
    have hw : Region.wanted o (yielded (regOf Try.f3 9) A.tmps) = true := wanted_tmp hg (by kernel_rfl) xg rfl
    exact step_pure hk hC hw (run_move ho1 x8 w) rfl
  | 8, _ =>
    have ho1 := opIs ho (p := .buildSlice 22 0 #[]) (by kernel_rfl)
    have hg := guardIs ho (p := some (6, false)) (by kernel_rfl)
    intro e A w hA hC hp K hk
    have xg : A.eval (.tmp 46) = .bool false := op_tmp hA hp 46 6 (by kernel_rfl) (by kernel_rfl) (by kernel_rfl) (hz _ rfl)
    have hw : Region.wanted o (yielded (regOf Try.f3 9) A.tmps) = true := wanted_tmp hg (by kernel_rfl) xg rfl
    refine step_value (v := .slice (some ⟨w.heap.size, 0, none⟩) 0 0) (w' := w.alloc (.cells #[] 9)) hk hw ?_ ?_ ?_ ?_
    · unfold execOp
      simp only [ho1]
      simp [go_sem]
    · exact row_base (World.ownsRow_made w #[] 0 (Nat.le_refl _) (Nat.zero_le _) rfl) hC.size
    · exact hC.alloc hC.size _
    · intro j u _ _ _ _ h
      exact way9_keep i0 a1 a2 a3 N1 N2 c1 c2 R D n3 c3 xs ys w1 j u w _ ((Below.refl _ w).alloc (Nat.le_refl _) _) h
  | 9, _ =>
    have ho1 := opIs ho (p := .move (.tmp 0)) (by kernel_rfl)
    have hg := guardIs ho (p := some (6, false)) (by kernel_rfl)
    intro e A w hA hC hp K hk
    have x0 : A.eval (.tmp 0) = .slice a1 N1 c1 := filled_base hA (by kernel_rfl) b0
    have xg : A.eval (.tmp 46) = .bool false := op_tmp hA hp 46 6 (by kernel_rfl) (by kernel_rfl) (by kernel_rfl) (hz _ rfl)
    have hw : Region.wanted o (yielded (regOf Try.f3 9) A.tmps) = true := wanted_tmp hg (by kernel_rfl) xg rfl
    exact step_pure hk hC hw (run_move ho1 x0 w) rfl
  | 10, _ =>
    have ho1 := opIs ho (p := .call { callee := (.builtin .append), args := #[(.tmp 48), (.tmp 49)], argTypes := #[22, 22] }) (by kernel_rfl)
    have hg := guardIs ho (p := some (6, false)) (by kernel_rfl)
    intro e A w hA hC hp K hk
    have x48 := op_tmp hA hp 48 8 (by kernel_rfl) (by kernel_rfl) (by kernel_rfl) (hz _ rfl)
    have x49 : A.eval (.tmp 49) = .slice a1 N1 c1 := op_tmp hA hp 49 9 (by kernel_rfl) (by kernel_rfl) (by kernel_rfl) (hz _ rfl)
    have xg : A.eval (.tmp 46) = .bool false := op_tmp hA hp 46 6 (by kernel_rfl) (by kernel_rfl) (by kernel_rfl) (hz _ rfl)
    have hw : Region.wanted o (yielded (regOf Try.f3 9) A.tmps) = true := wanted_tmp hg (by kernel_rfl) xg rfl
    refine step_appS w hw _ _ 22 ho1 w1.heap.size 9 i0 (.string ⟨#[]⟩) 16 Try.underlying22 hi hz0 hz1 hz2 rfl _ 0 [] x48 rfl _ (strs xs) x49 (h1.keep hC) (strs_one _) (by unfold maxLen; omega) (by omega) hC.size ?_
    intro v' w' ho' hg'
    refine hk v' w' ?_ (hC.grown hg' hC.size (fun x e => (x48.lt x e).1)) ?_
    · show w'.ownsRow _ _ 1 v' N1 (strs xs)
      rw [Nat.zero_add, List.nil_append, ← hN1] at ho'; exact ho'
    · intro j u _ hne hwt hdr h
      refine way9_free i0 a1 a2 a3 N1 N2 c1 c2 R D n3 c3 xs ys w1 j u w w' ?_ h
      by_cases h1 : j = 8
      · subst h1; exact absurd rfl (hdr 10 (by rw [show _ = _ from hsz]; decide) rfl).1
      by_cases h14 : j = 14
      · subst h14; exact absurd (show _ = true from by kernel_rfl : (waits _ 14).contains 10 = true) (by rw [hwt]; decide)
      · simp; omega
  | 11, _ =>
    have ho1 := opIs ho (p := .move (.tmp 1)) (by kernel_rfl)
    have hg := guardIs ho (p := some (6, false)) (by kernel_rfl)
    intro e A w hA hC hp K hk
    have x1 : A.eval (.tmp 1) = .slice a2 N2 c2 := filled_base hA (by kernel_rfl) b1
    have xg : A.eval (.tmp 46) = .bool false := op_tmp hA hp 46 6 (by kernel_rfl) (by kernel_rfl) (by kernel_rfl) (hz _ rfl)
    have hw : Region.wanted o (yielded (regOf Try.f3 9) A.tmps) = true := wanted_tmp hg (by kernel_rfl) xg rfl
    exact step_pure hk hC hw (run_move ho1 x1 w) rfl
  | 12, _ =>
    have ho1 := opIs ho (p := .move (.tmp 7)) (by kernel_rfl)
    have hg := guardIs ho (p := some (6, false)) (by kernel_rfl)
    intro e A w hA hC hp K hk
    have x7 : A.eval (.tmp 7) = .int .i64 (R : Int) := filled_base hA (by kernel_rfl) b7
    have xg : A.eval (.tmp 46) = .bool false := op_tmp hA hp 46 6 (by kernel_rfl) (by kernel_rfl) (by kernel_rfl) (hz _ rfl)
    have hw : Region.wanted o (yielded (regOf Try.f3 9) A.tmps) = true := wanted_tmp hg (by kernel_rfl) xg rfl
    exact step_pure hk hC hw (run_move ho1 x7 w) rfl
  | 13, _ =>
    have ho1 := opIs ho (p := .slice 22 (.tmp 51) none (some (.tmp 52)) none) (by kernel_rfl)
    have hg := guardIs ho (p := some (6, false)) (by kernel_rfl)
    intro e A w hA hC hp K hk
    have x51 : A.eval (.tmp 51) = .slice a2 N2 c2 := op_tmp hA hp 51 11 (by kernel_rfl) (by kernel_rfl) (by kernel_rfl) (hz _ rfl)
    have x52 : A.eval (.tmp 52) = .int .i64 (R : Int) := op_tmp hA hp 52 12 (by kernel_rfl) (by kernel_rfl) (by kernel_rfl) (hz _ rfl)
    have xg : A.eval (.tmp 46) = .bool false := op_tmp hA hp 46 6 (by kernel_rfl) (by kernel_rfl) (by kernel_rfl) (hz _ rfl)
    have hw : Region.wanted o (yielded (regOf Try.f3 9) A.tmps) = true := wanted_tmp hg (by kernel_rfl) xg rfl
    refine step_pure (v := .slice a2 R c2) hk hC hw ?_ rfl
    unfold execOp
    simp only [ho1]
    have e1 : (R : Int) ≤ (c2 : Int) := by omega
    
    generalize A.eval = ρ at x51 x52 ⊢
    simp [go_sem, x51, x52, e1]
  | 14, _ =>
    have ho1 := opIs ho (p := .call { callee := (.builtin .append), args := #[(.tmp 50), (.tmp 53)], argTypes := #[22, 22] }) (by kernel_rfl)
    have hg := guardIs ho (p := some (6, false)) (by kernel_rfl)
    intro e A w hA hC hp K hk
    have x50 := op_tmp hA hp 50 10 (by kernel_rfl) (by kernel_rfl) (by kernel_rfl) (hz _ rfl)
    have x53 : A.eval (.tmp 53) = .slice a2 R c2 := op_tmp hA hp 53 13 (by kernel_rfl) (by kernel_rfl) (by kernel_rfl) (hz _ rfl)
    have xg : A.eval (.tmp 46) = .bool false := op_tmp hA hp 46 6 (by kernel_rfl) (by kernel_rfl) (by kernel_rfl) (hz _ rfl)
    have hw : Region.wanted o (yielded (regOf Try.f3 9) A.tmps) = true := wanted_tmp hg (by kernel_rfl) xg rfl
    refine step_appS w hw _ _ 22 ho1 w1.heap.size 9 i0 (.string ⟨#[]⟩) 16 Try.underlying22 hi hz0 hz1 hz2 rfl _ N1 (strs xs) x50 rfl _ (strs (ys.take R)) x53 (h2.keep hC) (strs_one _) (by unfold maxLen; omega) (by omega) hC.size ?_
    intro v' w' ho' hg'
    refine hk v' w' ?_ (hC.grown hg' hC.size (fun x e => (x50.lt x e).1)) ?_
    · rw [← strs_append] at ho'
      obtain ⟨a5, n5, c5, hv5, hsl5, hfr5, hnc5⟩ := own_slice ho'
      subst hv5
      exact ⟨a5, n5, c5, rfl, hsl5⟩
    · intro j u _ hne hwt hdr h
      refine way9_free i0 a1 a2 a3 N1 N2 c1 c2 R D n3 c3 xs ys w1 j u w w' ?_ h
      by_cases h1 : j = 10
      · subst h1; exact absurd rfl (hdr 14 (by rw [show _ = _ from hsz]; decide) rfl).1
    
      by_cases h8 : j = 8
      · subst h8
        obtain ⟨y, hy, _⟩ := hp 10 (by kernel_rfl)
        have := (hdr 10 (by rw [show _ = _ from hsz]; decide) rfl).2
        rw [hy] at this; cases this
      · simp; omega
  | 15, _ =>
    have ho1 := opIs ho (p := .call { callee := (.value (.func 10)), args := #[(.tmp 47), (.tmp 54)], argTypes := #[22, 22] }) (by kernel_rfl)
    have hg := guardIs ho (p := some (6, false)) (by kernel_rfl)
    intro e A w hA hC hp K hk
    have x47 : A.eval (.tmp 47) = .slice a3 n3 c3 := op_tmp hA hp 47 7 (by kernel_rfl) (by kernel_rfl) (by kernel_rfl) (hz _ rfl)
    have x54 := op_tmp hA hp 54 14 (by kernel_rfl) (by kernel_rfl) (by kernel_rfl) (hz _ rfl)
    have xg : A.eval (.tmp 46) = .bool false := op_tmp hA hp 46 6 (by kernel_rfl) (by kernel_rfl) (by kernel_rfl) (hz _ rfl)
    have hw : Region.wanted o (yielded (regOf Try.f3 9) A.tmps) = true := wanted_tmp hg (by kernel_rfl) xg rfl
    obtain ⟨a, n, c, x54, hsl⟩ := x54
    refine step_call (f := 10) (args := #[.slice a3 n3 c3, .slice a n c]) hk hw ?_ ?_
    · unfold execOp
      simp only [ho1]
      have xf : ∀ f, A.eval (.func f) = .func (.func f) #[] #[] := fun _ => rfl
      generalize A.eval = ρ at x47 x54 xf ⊢
      simp [go_sem, xf, x47, x54]
    · refine (like_same _ _ _ _ _ _ _ _ (h3.keep hC) hsl hlen).mono ?_
      rintro en w' ⟨rfl, m, rfl⟩
      exact ⟨_, rfl, rfl, below_drewN hC m, fun j u _ _ _ _ h => way9_keep i0 a1 a2 a3 N1 N2 c1 c2 R D n3 c3 xs ys w1 j u w _ (below_drewN (Below.refl _ _) m) h⟩
  | 16, _ =>
    have ho1 := opIs ho (p := .unOp .not 4 (.tmp 55)) (by kernel_rfl)
    have hg := guardIs ho (p := some (6, false)) (by kernel_rfl)
    intro e A w hA hC hp K hk
    have x55 : A.eval (.tmp 55) = .bool true := op_tmp hA hp 55 15 (by kernel_rfl) (by kernel_rfl) (by kernel_rfl) (hz _ rfl)
    have xg : A.eval (.tmp 46) = .bool false := op_tmp hA hp 46 6 (by kernel_rfl) (by kernel_rfl) (by kernel_rfl) (hz _ rfl)
    have hw : Region.wanted o (yielded (regOf Try.f3 9) A.tmps) = true := wanted_tmp hg (by kernel_rfl) xg rfl
    refine step_pure (v := .bool false) hk hC hw ?_ rfl
    unfold execOp
    simp only [ho1]
    generalize A.eval = ρ at x55 ⊢
    simp [go_sem, x55]
  | 17, _ =>
    have ho1 := opIs ho (p := .pick (.tmp 46) (.const (.bool true)) (.tmp 56)) (by kernel_rfl)
    have hg := guardIs ho (p := none) (by kernel_rfl)
    intro e A w hA hC hp K hk
    have x46 : A.eval (.tmp 46) = .bool false := op_tmp hA hp 46 6 (by kernel_rfl) (by kernel_rfl) (by kernel_rfl) (hz _ rfl)
    have x56 : A.eval (.tmp 56) = .bool false := op_tmp hA hp 56 16 (by kernel_rfl) (by kernel_rfl) (by kernel_rfl) (hz _ rfl)
    have hw : Region.wanted o (yielded (regOf Try.f3 9) A.tmps) = true := wanted_free hg
    refine step_pure hk hC hw (run_pick (v := .bool false) ho1 x46 ?_ w) rfl
    first | rfl | exact x56 | exact x46
  | _ + 18, h => exact absurd h (by omega)
end Go.Proofs.Ytdlnabjledhiiaa

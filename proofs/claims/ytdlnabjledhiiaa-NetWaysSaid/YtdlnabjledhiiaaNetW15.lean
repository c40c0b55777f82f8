/-
  The steps of the drawn regions of the law NetWays; conditions: the lengths that the law asks first.
-/
import Derived.Test.YtdlnabjledhiiaaNetAlive
import Derived.Test.YtdlnabjledhiiaaReg
import Derived.IntWalk
namespace Go.Proofs.Ytdlnabjledhiiaa
open Go.RowKit
set_option linter.unusedVariables false

/-- What each operation of the region yields. -/
def way15T (i0 : TypeInfo) (ad : Addr) (a3 : Option Addr) (N1 k c1 n3 c3 : Nat) (t : ByteArray) (S : Value) (xs zs us vs : List ByteArray) (w1 : World) : Nat → Value → World → Prop
  | 0, v, w => v = .int .i64 0
  | 1, v, w => v = .bool false
  | 2, v, w => v = .bool false
  | 3, v, w => v = .string t
  | 4, v, w => v = .slice (some ad) N1 c1
  | 5, v, w => v = .int .i64 (k : Int)
  | 6, v, w => v = .pointer (some (ad.add k))
  | 7, v, w => v = .string t
  | 8, v, w => v = .bool false
  | 9, v, w => v = .bool false
  | 10, v, w => v = .bool false
  | 11, v, w => v = .slice a3 n3 c3
  | 12, v, w => w.ownsRow w1.heap.size 9 1 v 0 []
  | 13, v, w => v = .slice (some ad) N1 c1
  | 14, v, w => v = .int .i64 (k : Int)
  | 15, v, w => v = .slice (some ad) k c1
  | 16, v, w => w.ownsRow w1.heap.size 9 1 v k (strs us)
  | 17, v, w => v = .slice (some ad) N1 c1
  | 18, v, w => v = .int .i64 (k : Int)
  | 19, v, w => v = .int .i64 ((k : Int) + 1)
  | 20, v, w => v = S
  | 21, v, w => ∃ a n c, v = .slice a n c ∧ SlAt w a n (strs zs)
  | 22, v, w => v = .bool true
  | 23, v, w => v = .bool false
  | 24, v, w => v = .bool false
  | _, _, _ => True
def way15D : Nat → List Nat
  | 16 => [12]
  | 21 => [16]
  | _ => []
theorem way15_keep (i0 : TypeInfo) (ad : Addr) (a3 : Option Addr) (N1 k c1 n3 c3 : Nat) (t : ByteArray) (S : Value) (xs zs us vs : List ByteArray) (w1 : World) : ∀ (j : Nat) (u : Value) (w w' : World), Below w.heap.size w w' → (way15T i0 ad a3 N1 k c1 n3 c3 t S xs zs us vs w1) j u w → (way15T i0 ad a3 N1 k c1 n3 c3 t S xs zs us vs w1) j u w'
  | 12, u, w, w', hb, h => h.kept (grown_below hb none) (by by_cases hh : u.ownBlock = none <;> simp [hh])
  | 16, u, w, w', hb, h => h.kept (grown_below hb none) (by by_cases hh : u.ownBlock = none <;> simp [hh])
  | 21, u, w, w', hb, h => by obtain ⟨a, n, c, rfl, hs⟩ := h; exact ⟨a, n, c, rfl, hs.keep hb⟩
  | 0, u, w, w', hb, h => h
  | 1, u, w, w', hb, h => h
  | 2, u, w, w', hb, h => h
  | 3, u, w, w', hb, h => h
  | 4, u, w, w', hb, h => h
  | 5, u, w, w', hb, h => h
  | 6, u, w, w', hb, h => h
  | 7, u, w, w', hb, h => h
  | 8, u, w, w', hb, h => h
  | 9, u, w, w', hb, h => h
  | 10, u, w, w', hb, h => h
  | 11, u, w, w', hb, h => h
  | 13, u, w, w', hb, h => h
  | 14, u, w, w', hb, h => h
  | 15, u, w, w', hb, h => h
  | 17, u, w, w', hb, h => h
  | 18, u, w, w', hb, h => h
  | 19, u, w, w', hb, h => h
  | 20, u, w, w', hb, h => h
  | 22, u, w, w', hb, h => h
  | 23, u, w, w', hb, h => h
  | 24, u, w, w', hb, h => h
  | _ + 25, u, w, w', hb, h => trivial
theorem way15_free (i0 : TypeInfo) (ad : Addr) (a3 : Option Addr) (N1 k c1 n3 c3 : Nat) (t : ByteArray) (S : Value) (xs zs us vs : List ByteArray) (w1 : World) : ∀ (j : Nat) (u : Value) (w w' : World), [12, 16, 21].contains j = false → (way15T i0 ad a3 N1 k c1 n3 c3 t S xs zs us vs w1) j u w → (way15T i0 ad a3 N1 k c1 n3 c3 t S xs zs us vs w1) j u w'
  | 12, u, w, w', hb, h => by cases hb
  | 16, u, w, w', hb, h => by cases hb
  | 21, u, w, w', hb, h => by cases hb
  | 0, u, w, w', hb, h => h
  | 1, u, w, w', hb, h => h
  | 2, u, w, w', hb, h => h
  | 3, u, w, w', hb, h => h
  | 4, u, w, w', hb, h => h
  | 5, u, w, w', hb, h => h
  | 6, u, w, w', hb, h => h
  | 7, u, w, w', hb, h => h
  | 8, u, w, w', hb, h => h
  | 9, u, w, w', hb, h => h
  | 10, u, w, w', hb, h => h
  | 11, u, w, w', hb, h => h
  | 13, u, w, w', hb, h => h
  | 14, u, w, w', hb, h => h
  | 15, u, w, w', hb, h => h
  | 17, u, w, w', hb, h => h
  | 18, u, w, w', hb, h => h
  | 19, u, w, w', hb, h => h
  | 20, u, w, w', hb, h => h
  | 22, u, w, w', hb, h => h
  | 23, u, w, w', hb, h => h
  | 24, u, w, w', hb, h => h
  | _ + 25, u, w, w', hb, h => trivial
set_option maxHeartbeats 4000000 in
theorem way15_steps (i0 : TypeInfo) (ad : Addr) (a3 : Option Addr) (N1 k c1 n3 c3 : Nat) (t : ByteArray) (S : Value) (xs zs us vs : List ByteArray) (w1 : World) (hi : Try.prog.info? 9 = some i0) (hz0 : i0.zero = some (.string ⟨#[]⟩)) (hz1 : i0.size = 1) (hz2 : i0.bytes = 16) (hk1 : Src w1 (.slice (some ad) k c1) (strs us)) (hk2 : Src w1 S (strs vs)) (hcell : w1.cell? (ad.add k) = some (.string t)) (hkN : k < N1) (hNc : N1 ≤ c1) (hN : N1 ≤ 400) (hS : S = .slice (if c1 = k + 1 then some ad else some (ad.add (k + 1))) (N1 - (k + 1)) (c1 - (k + 1))) (hus : us.length = k) (hvs : vs.length ≤ 400) (hzs : zs = us ++ vs) (h3 : SlAt w1 a3 n3 (strs zs)) (hlen : zs.length ≤ 9223372036854775807) {a : Act} (hs : a.tmps.size = 159) (b12 : a.eval (.tmp 12) = .int .i64 0) (b11 : a.eval (.tmp 11) = .string t) (b0 : a.eval (.tmp 0) = .slice (some ad) N1 c1) (b2 : a.eval (.tmp 2) = .int .i64 (k : Int)) (b10 : a.eval (.tmp 10) = .slice a3 n3 c3) : ∀ i o, (regOf Try.f3 15)[i]? = some o → StepOk Try.prog (regOf Try.f3 15) a (fun w => Below w1.heap.size w1 w) (way15T i0 ad a3 N1 k c1 n3 c3 t S xs zs us vs w1) way15D i o := by
  have hz : ∀ t, Nat.blt t 159 = true → Nat.blt t a.tmps.size = true := fun t h => by rw [hs]; exact h
  have hsz : (regOf Try.f3 15).size = 25 := by kernel_rfl
  refine of_index 25 hsz ?_
  intro i hii o ho
  match i, hii with
  | 0, _ =>
    have ho1 := opIs ho (p := .move (.tmp 12)) (by kernel_rfl)
    have hg := guardIs ho (p := none) (by kernel_rfl)
    intro e A w hA hC hp K hk
    have x12 : A.eval (.tmp 12) = .int .i64 0 := filled_base hA (by kernel_rfl) b12
    have hw : Region.wanted o (yielded (regOf Try.f3 15) A.tmps) = true := wanted_free hg
    exact step_pure hk hC hw (run_move ho1 x12 w) rfl
  | 1, _ =>
    have ho1 := opIs ho (p := .binOp .neq 26 (.tmp 103) (.const (.int .i64 0)) 26) (by kernel_rfl)
    have hg := guardIs ho (p := none) (by kernel_rfl)
    intro e A w hA hC hp K hk
    have x103 : A.eval (.tmp 103) = .int .i64 0 := op_tmp hA hp 103 0 (by kernel_rfl) (by kernel_rfl) (by kernel_rfl) (hz _ rfl)
    have hw : Region.wanted o (yielded (regOf Try.f3 15) A.tmps) = true := wanted_free hg
    refine step_pure (v := .bool false) hk hC hw ?_ rfl
    unfold execOp
    simp only [ho1]
    have xc : ∀ v, A.eval (.const v) = v := fun _ => rfl
    generalize A.eval = ρ at x103 xc ⊢
    simp [go_sem, x103, xc]
  | 2, _ =>
    have ho1 := opIs ho (p := .move (.tmp 104)) (by kernel_rfl)
    have hg := guardIs ho (p := none) (by kernel_rfl)
    intro e A w hA hC hp K hk
    have x104 : A.eval (.tmp 104) = .bool false := op_tmp hA hp 104 1 (by kernel_rfl) (by kernel_rfl) (by kernel_rfl) (hz _ rfl)
    have hw : Region.wanted o (yielded (regOf Try.f3 15) A.tmps) = true := wanted_free hg
    exact step_pure hk hC hw (run_move ho1 x104 w) rfl
  | 3, _ =>
    have ho1 := opIs ho (p := .move (.tmp 11)) (by kernel_rfl)
    have hg := guardIs ho (p := some (2, false)) (by kernel_rfl)
    intro e A w hA hC hp K hk
    have x11 : A.eval (.tmp 11) = .string t := filled_base hA (by kernel_rfl) b11
    have xg : A.eval (.tmp 105) = .bool false := op_tmp hA hp 105 2 (by kernel_rfl) (by kernel_rfl) (by kernel_rfl) (hz _ rfl)
    have hw : Region.wanted o (yielded (regOf Try.f3 15) A.tmps) = true := wanted_tmp hg (by kernel_rfl) xg rfl
    exact step_pure hk hC hw (run_move ho1 x11 w) rfl
  | 4, _ =>
    have ho1 := opIs ho (p := .move (.tmp 0)) (by kernel_rfl)
    have hg := guardIs ho (p := some (2, false)) (by kernel_rfl)
    intro e A w hA hC hp K hk
    have x0 : A.eval (.tmp 0) = .slice (some ad) N1 c1 := filled_base hA (by kernel_rfl) b0
    have xg : A.eval (.tmp 105) = .bool false := op_tmp hA hp 105 2 (by kernel_rfl) (by kernel_rfl) (by kernel_rfl) (hz _ rfl)
    have hw : Region.wanted o (yielded (regOf Try.f3 15) A.tmps) = true := wanted_tmp hg (by kernel_rfl) xg rfl
    exact step_pure hk hC hw (run_move ho1 x0 w) rfl
  | 5, _ =>
    have ho1 := opIs ho (p := .move (.tmp 2)) (by kernel_rfl)
    have hg := guardIs ho (p := some (2, false)) (by kernel_rfl)
    intro e A w hA hC hp K hk
    have x2 : A.eval (.tmp 2) = .int .i64 (k : Int) := filled_base hA (by kernel_rfl) b2
    have xg : A.eval (.tmp 105) = .bool false := op_tmp hA hp 105 2 (by kernel_rfl) (by kernel_rfl) (by kernel_rfl) (hz _ rfl)
    have hw : Region.wanted o (yielded (regOf Try.f3 15) A.tmps) = true := wanted_tmp hg (by kernel_rfl) xg rfl
    exact step_pure hk hC hw (run_move ho1 x2 w) rfl
  | 6, _ =>
    have ho1 := opIs ho (p := .indexAddr 22 (.tmp 107) (.tmp 108)) (by kernel_rfl)
    have hg := guardIs ho (p := some (2, false)) (by kernel_rfl)
    intro e A w hA hC hp K hk
    have x107 : A.eval (.tmp 107) = .slice (some ad) N1 c1 := op_tmp hA hp 107 4 (by kernel_rfl) (by kernel_rfl) (by kernel_rfl) (hz _ rfl)
    have x108 : A.eval (.tmp 108) = .int .i64 (k : Int) := op_tmp hA hp 108 5 (by kernel_rfl) (by kernel_rfl) (by kernel_rfl) (hz _ rfl)
    have xg : A.eval (.tmp 105) = .bool false := op_tmp hA hp 105 2 (by kernel_rfl) (by kernel_rfl) (by kernel_rfl) (hz _ rfl)
    have hw : Region.wanted o (yielded (regOf Try.f3 15) A.tmps) = true := wanted_tmp hg (by kernel_rfl) xg rfl
    refine step_pure (v := .pointer (some (ad.add k))) hk hC hw ?_ rfl
    unfold execOp
    simp only [ho1]
    have e1 : (k : Int) < (N1 : Int) := by omega
    generalize A.eval = ρ at x107 x108 ⊢
    simp [go_sem, x107, x108, e1]
  | 7, _ =>
    have ho1 := opIs ho (p := .load 9 (.tmp 109)) (by kernel_rfl)
    have hg := guardIs ho (p := some (2, false)) (by kernel_rfl)
    intro e A w hA hC hp K hk
    have x109 : A.eval (.tmp 109) = .pointer (some (ad.add k)) := op_tmp hA hp 109 6 (by kernel_rfl) (by kernel_rfl) (by kernel_rfl) (hz _ rfl)
    have xg : A.eval (.tmp 105) = .bool false := op_tmp hA hp 105 2 (by kernel_rfl) (by kernel_rfl) (by kernel_rfl) (hz _ rfl)
    have hw : Region.wanted o (yielded (regOf Try.f3 15) A.tmps) = true := wanted_tmp hg (by kernel_rfl) xg rfl
    refine step_pure (v := .string t) hk hC hw ?_ rfl
    unfold execOp
    simp only [ho1]
    have e1 := cell_keep hC hcell
    generalize A.eval = ρ at x109 ⊢
    simp [go_sem, x109, e1]
  | 8, _ =>
    have ho1 := opIs ho (p := .binOp .neq 9 (.tmp 106) (.tmp 110) 9) (by kernel_rfl)
    have hg := guardIs ho (p := some (2, false)) (by kernel_rfl)
    intro e A w hA hC hp K hk
    have x106 : A.eval (.tmp 106) = .string t := op_tmp hA hp 106 3 (by kernel_rfl) (by kernel_rfl) (by kernel_rfl) (hz _ rfl)
    have x110 : A.eval (.tmp 110) = .string t := op_tmp hA hp 110 7 (by kernel_rfl) (by kernel_rfl) (by kernel_rfl) (hz _ rfl)
    have xg : A.eval (.tmp 105) = .bool false := op_tmp hA hp 105 2 (by kernel_rfl) (by kernel_rfl) (by kernel_rfl) (hz _ rfl)
    have hw : Region.wanted o (yielded (regOf Try.f3 15) A.tmps) = true := wanted_tmp hg (by kernel_rfl) xg rfl
    refine step_pure (v := .bool false) hk hC hw ?_ rfl
    unfold execOp
    simp only [ho1]
    generalize A.eval = ρ at x106 x110 ⊢
    simp [go_sem, x106, x110]
  | 9, _ =>
    have ho1 := opIs ho (p := .pick (.tmp 105) (.const (.bool true)) (.tmp 111)) (by kernel_rfl)
    have hg := guardIs ho (p := none) (by kernel_rfl)
    intro e A w hA hC hp K hk
    have x105 : A.eval (.tmp 105) = .bool false := op_tmp hA hp 105 2 (by kernel_rfl) (by kernel_rfl) (by kernel_rfl) (hz _ rfl)
    have x111 : A.eval (.tmp 111) = .bool false := op_tmp hA hp 111 8 (by kernel_rfl) (by kernel_rfl) (by kernel_rfl) (hz _ rfl)
    have hw : Region.wanted o (yielded (regOf Try.f3 15) A.tmps) = true := wanted_free hg
    refine step_pure hk hC hw (run_pick (v := .bool false) ho1 x105 ?_ w) rfl
    first | rfl | exact x111 | exact x105
  | 10, _ =>
    have ho1 := opIs ho (p := .move (.tmp 112)) (by kernel_rfl)
    have hg := guardIs ho (p := none) (by kernel_rfl)
    intro e A w hA hC hp K hk
    have x112 : A.eval (.tmp 112) = .bool false := op_tmp hA hp 112 9 (by kernel_rfl) (by kernel_rfl) (by kernel_rfl) (hz _ rfl)
    have hw : Region.wanted o (yielded (regOf Try.f3 15) A.tmps) = true := wanted_free hg
    exact step_pure hk hC hw (run_move ho1 x112 w) rfl
  | 11, _ =>
    have ho1 := opIs ho (p := .move (.tmp 10)) (by kernel_rfl)
    have hg := guardIs ho (p := some (10, false)) (by kernel_rfl)
    intro e A w hA hC hp K hk
    have x10 : A.eval (.tmp 10) = .slice a3 n3 c3 := filled_base hA (by kernel_rfl) b10
    have xg : A.eval (.tmp 113) = .bool false := op_tmp hA hp 113 10 (by kernel_rfl) (by kernel_rfl) (by kernel_rfl) (hz _ rfl)
    have hw : Region.wanted o (yielded (regOf Try.f3 15) A.tmps) = true := wanted_tmp hg (by kernel_rfl) xg rfl
    exact step_pure hk hC hw (run_move ho1 x10 w) rfl
  | 12, _ =>
    have ho1 := opIs ho (p := .buildSlice 22 0 #[]) (by kernel_rfl)
    have hg := guardIs ho (p := some (10, false)) (by kernel_rfl)
    intro e A w hA hC hp K hk
    have xg : A.eval (.tmp 113) = .bool false := op_tmp hA hp 113 10 (by kernel_rfl) (by kernel_rfl) (by kernel_rfl) (hz _ rfl)
    have hw : Region.wanted o (yielded (regOf Try.f3 15) A.tmps) = true := wanted_tmp hg (by kernel_rfl) xg rfl
    refine step_value (v := .slice (some ⟨w.heap.size, 0, none⟩) 0 0) (w' := w.alloc (.cells #[] 9)) hk hw ?_ ?_ ?_ ?_
    · unfold execOp
      simp only [ho1]
      simp [go_sem]
    · exact row_base (World.ownsRow_made w #[] 0 (Nat.le_refl _) (Nat.zero_le _) rfl) hC.size
    · exact hC.alloc hC.size _
    · intro j u _ _ _ _ h
      exact way15_keep i0 ad a3 N1 k c1 n3 c3 t S xs zs us vs w1 j u w _ ((Below.refl _ w).alloc (Nat.le_refl _) _) h
  | 13, _ =>
    have ho1 := opIs ho (p := .move (.tmp 0)) (by kernel_rfl)
    have hg := guardIs ho (p := some (10, false)) (by kernel_rfl)
    intro e A w hA hC hp K hk
    have x0 : A.eval (.tmp 0) = .slice (some ad) N1 c1 := filled_base hA (by kernel_rfl) b0
    have xg : A.eval (.tmp 113) = .bool false := op_tmp hA hp 113 10 (by kernel_rfl) (by kernel_rfl) (by kernel_rfl) (hz _ rfl)
    have hw : Region.wanted o (yielded (regOf Try.f3 15) A.tmps) = true := wanted_tmp hg (by kernel_rfl) xg rfl
    exact step_pure hk hC hw (run_move ho1 x0 w) rfl
  | 14, _ =>
    have ho1 := opIs ho (p := .move (.tmp 2)) (by kernel_rfl)
    have hg := guardIs ho (p := some (10, false)) (by kernel_rfl)
    intro e A w hA hC hp K hk
    have x2 : A.eval (.tmp 2) = .int .i64 (k : Int) := filled_base hA (by kernel_rfl) b2
    have xg : A.eval (.tmp 113) = .bool false := op_tmp hA hp 113 10 (by kernel_rfl) (by kernel_rfl) (by kernel_rfl) (hz _ rfl)
    have hw : Region.wanted o (yielded (regOf Try.f3 15) A.tmps) = true := wanted_tmp hg (by kernel_rfl) xg rfl
    exact step_pure hk hC hw (run_move ho1 x2 w) rfl
  | 15, _ =>
    have ho1 := opIs ho (p := .slice 22 (.tmp 116) none (some (.tmp 117)) none) (by kernel_rfl)
    have hg := guardIs ho (p := some (10, false)) (by kernel_rfl)
    intro e A w hA hC hp K hk
    have x116 : A.eval (.tmp 116) = .slice (some ad) N1 c1 := op_tmp hA hp 116 13 (by kernel_rfl) (by kernel_rfl) (by kernel_rfl) (hz _ rfl)
    have x117 : A.eval (.tmp 117) = .int .i64 (k : Int) := op_tmp hA hp 117 14 (by kernel_rfl) (by kernel_rfl) (by kernel_rfl) (hz _ rfl)
    have xg : A.eval (.tmp 113) = .bool false := op_tmp hA hp 113 10 (by kernel_rfl) (by kernel_rfl) (by kernel_rfl) (hz _ rfl)
    have hw : Region.wanted o (yielded (regOf Try.f3 15) A.tmps) = true := wanted_tmp hg (by kernel_rfl) xg rfl
    refine step_pure (v := .slice (some ad) k c1) hk hC hw ?_ rfl
    unfold execOp
    simp only [ho1]
    have e1 : (k : Int) ≤ (c1 : Int) := by omega
    generalize A.eval = ρ at x116 x117 ⊢
    simp [go_sem, x116, x117, e1]
  | 16, _ =>
    have ho1 := opIs ho (p := .call { callee := (.builtin .append), args := #[(.tmp 115), (.tmp 118)], argTypes := #[22, 22] }) (by kernel_rfl)
    have hg := guardIs ho (p := some (10, false)) (by kernel_rfl)
    intro e A w hA hC hp K hk
    have x115 := op_tmp hA hp 115 12 (by kernel_rfl) (by kernel_rfl) (by kernel_rfl) (hz _ rfl)
    have x118 : A.eval (.tmp 118) = .slice (some ad) k c1 := op_tmp hA hp 118 15 (by kernel_rfl) (by kernel_rfl) (by kernel_rfl) (hz _ rfl)
    have xg : A.eval (.tmp 113) = .bool false := op_tmp hA hp 113 10 (by kernel_rfl) (by kernel_rfl) (by kernel_rfl) (hz _ rfl)
    have hw : Region.wanted o (yielded (regOf Try.f3 15) A.tmps) = true := wanted_tmp hg (by kernel_rfl) xg rfl
    refine step_appS w hw _ _ 22 ho1 w1.heap.size 9 i0 (.string ⟨#[]⟩) 16 Try.underlying22 hi hz0 hz1 hz2 rfl _ 0 [] x115 rfl _ (strs us) x118 (hk1.keep hC) (strs_one _) (by rw [strs_length]; unfold maxLen; omega) (by rw [strs_length]; omega) hC.size ?_
    intro v' w' ho' hg'
    refine hk v' w' ?_ (hC.grown hg' hC.size (fun x e => (x115.lt x e).1)) ?_
    · show w'.ownsRow _ _ 1 v' k (strs us)
      rw [Nat.zero_add, List.nil_append, strs_length, hus] at ho'; exact ho'
    · intro j u _ hne hwt hdr h
      refine way15_free i0 ad a3 N1 k c1 n3 c3 t S xs zs us vs w1 j u w w' ?_ h
      by_cases h1 : j = 12
      · subst h1; exact absurd rfl (hdr 16 (by rw [show _ = _ from hsz]; decide) rfl).1
      by_cases h21 : j = 21
      · subst h21; exact absurd (show _ = true from by kernel_rfl : (waits _ 21).contains 16 = true) (by rw [hwt]; decide)
      · simp; omega
  | 17, _ =>
    have ho1 := opIs ho (p := .move (.tmp 0)) (by kernel_rfl)
    have hg := guardIs ho (p := some (10, false)) (by kernel_rfl)
    intro e A w hA hC hp K hk
    have x0 : A.eval (.tmp 0) = .slice (some ad) N1 c1 := filled_base hA (by kernel_rfl) b0
    have xg : A.eval (.tmp 113) = .bool false := op_tmp hA hp 113 10 (by kernel_rfl) (by kernel_rfl) (by kernel_rfl) (hz _ rfl)
    have hw : Region.wanted o (yielded (regOf Try.f3 15) A.tmps) = true := wanted_tmp hg (by kernel_rfl) xg rfl
    exact step_pure hk hC hw (run_move ho1 x0 w) rfl
  | 18, _ =>
    have ho1 := opIs ho (p := .move (.tmp 2)) (by kernel_rfl)
    have hg := guardIs ho (p := some (10, false)) (by kernel_rfl)
    intro e A w hA hC hp K hk
    have x2 : A.eval (.tmp 2) = .int .i64 (k : Int) := filled_base hA (by kernel_rfl) b2
    have xg : A.eval (.tmp 113) = .bool false := op_tmp hA hp 113 10 (by kernel_rfl) (by kernel_rfl) (by kernel_rfl) (hz _ rfl)
    have hw : Region.wanted o (yielded (regOf Try.f3 15) A.tmps) = true := wanted_tmp hg (by kernel_rfl) xg rfl
    exact step_pure hk hC hw (run_move ho1 x2 w) rfl
  | 19, _ =>
    have ho1 := opIs ho (p := .binOp .add 3 (.tmp 121) (.const (.int .i64 1)) 3) (by kernel_rfl)
    have hg := guardIs ho (p := some (10, false)) (by kernel_rfl)
    intro e A w hA hC hp K hk
    have x121 : A.eval (.tmp 121) = .int .i64 (k : Int) := op_tmp hA hp 121 18 (by kernel_rfl) (by kernel_rfl) (by kernel_rfl) (hz _ rfl)
    have xg : A.eval (.tmp 113) = .bool false := op_tmp hA hp 113 10 (by kernel_rfl) (by kernel_rfl) (by kernel_rfl) (hz _ rfl)
    have hw : Region.wanted o (yielded (regOf Try.f3 15) A.tmps) = true := wanted_tmp hg (by kernel_rfl) xg rfl
    refine step_pure (v := .int .i64 ((k : Int) + 1)) hk hC hw ?_ rfl
    unfold execOp
    simp only [ho1]
    have xc : ∀ v, A.eval (.const v) = v := fun _ => rfl
    have e1 : IntKind.i64.wrap ((k : Int) + 1) = (k : Int) + 1 := by rw [IntWalk.i64_in _ (by omega)]
    generalize A.eval = ρ at x121 xc ⊢
    simp [go_sem, x121, xc, e1]
  | 20, _ =>
    have ho1 := opIs ho (p := .slice 22 (.tmp 120) (some (.tmp 122)) none none) (by kernel_rfl)
    have hg := guardIs ho (p := some (10, false)) (by kernel_rfl)
    intro e A w hA hC hp K hk
    have x120 : A.eval (.tmp 120) = .slice (some ad) N1 c1 := op_tmp hA hp 120 17 (by kernel_rfl) (by kernel_rfl) (by kernel_rfl) (hz _ rfl)
    have x122 : A.eval (.tmp 122) = .int .i64 ((k : Int) + 1) := op_tmp hA hp 122 19 (by kernel_rfl) (by kernel_rfl) (by kernel_rfl) (hz _ rfl)
    have xg : A.eval (.tmp 113) = .bool false := op_tmp hA hp 113 10 (by kernel_rfl) (by kernel_rfl) (by kernel_rfl) (hz _ rfl)
    have hw : Region.wanted o (yielded (regOf Try.f3 15) A.tmps) = true := wanted_tmp hg (by kernel_rfl) xg rfl
    refine step_pure (v := S) hk hC hw ?_ rfl
    unfold execOp
    simp only [ho1]
    have e5 : ¬ ((k : Int) + 1 < 0) := by omega
    have e1 : (k : Int) + 1 ≤ (N1 : Int) := by omega
    have e3 : ((k : Int) + 1).toNat = k + 1 := by omega
    have e4 := hS
    generalize A.eval = ρ at x120 x122 ⊢
    simp [go_sem, x120, x122, e1, e3, e4, e5]
  | 21, _ =>
    have ho1 := opIs ho (p := .call { callee := (.builtin .append), args := #[(.tmp 119), (.tmp 123)], argTypes := #[22, 22] }) (by kernel_rfl)
    have hg := guardIs ho (p := some (10, false)) (by kernel_rfl)
    intro e A w hA hC hp K hk
    have x119 := op_tmp hA hp 119 16 (by kernel_rfl) (by kernel_rfl) (by kernel_rfl) (hz _ rfl)
    have x123 : A.eval (.tmp 123) = S := op_tmp hA hp 123 20 (by kernel_rfl) (by kernel_rfl) (by kernel_rfl) (hz _ rfl)
    have xg : A.eval (.tmp 113) = .bool false := op_tmp hA hp 113 10 (by kernel_rfl) (by kernel_rfl) (by kernel_rfl) (hz _ rfl)
    have hw : Region.wanted o (yielded (regOf Try.f3 15) A.tmps) = true := wanted_tmp hg (by kernel_rfl) xg rfl
    refine step_appS w hw _ _ 22 ho1 w1.heap.size 9 i0 (.string ⟨#[]⟩) 16 Try.underlying22 hi hz0 hz1 hz2 rfl _ k (strs us) x119 rfl _ (strs vs) x123 (hk2.keep hC) (strs_one _) (by rw [strs_length]; unfold maxLen; omega) (by rw [strs_length]; omega) hC.size ?_
    intro v' w' ho' hg'
    refine hk v' w' ?_ (hC.grown hg' hC.size (fun x e => (x119.lt x e).1)) ?_
    · rw [← strs_append, ← hzs] at ho'
      obtain ⟨a5, n5, c5, hv5, hsl5, hfr5, hnc5⟩ := own_slice ho'
      subst hv5
      exact ⟨a5, n5, c5, rfl, hsl5⟩
    · intro j u _ hne hwt hdr h
      refine way15_free i0 ad a3 N1 k c1 n3 c3 t S xs zs us vs w1 j u w w' ?_ h
      by_cases h1 : j = 16
      · subst h1; exact absurd rfl (hdr 21 (by rw [show _ = _ from hsz]; decide) rfl).1
    
      by_cases h12 : j = 12
      · subst h12
        obtain ⟨y, hy, _⟩ := hp 16 (by kernel_rfl)
        have := (hdr 16 (by rw [show _ = _ from hsz]; decide) rfl).2
        rw [hy] at this; cases this
      · simp; omega
  | 22, _ =>
    have ho1 := opIs ho (p := .call { callee := (.value (.func 10)), args := #[(.tmp 114), (.tmp 124)], argTypes := #[22, 22] }) (by kernel_rfl)
    have hg := guardIs ho (p := some (10, false)) (by kernel_rfl)
    intro e A w hA hC hp K hk
    have x114 : A.eval (.tmp 114) = .slice a3 n3 c3 := op_tmp hA hp 114 11 (by kernel_rfl) (by kernel_rfl) (by kernel_rfl) (hz _ rfl)
    have x124 := op_tmp hA hp 124 21 (by kernel_rfl) (by kernel_rfl) (by kernel_rfl) (hz _ rfl)
    have xg : A.eval (.tmp 113) = .bool false := op_tmp hA hp 113 10 (by kernel_rfl) (by kernel_rfl) (by kernel_rfl) (hz _ rfl)
    have hw : Region.wanted o (yielded (regOf Try.f3 15) A.tmps) = true := wanted_tmp hg (by kernel_rfl) xg rfl
    obtain ⟨a, n, c, x124, hsl⟩ := x124
    refine step_call (f := 10) (args := #[.slice a3 n3 c3, .slice a n c]) hk hw ?_ ?_
    · unfold execOp
      simp only [ho1]
      have xf : ∀ f, A.eval (.func f) = .func (.func f) #[] #[] := fun _ => rfl
      generalize A.eval = ρ at x114 x124 xf ⊢
      simp [go_sem, xf, x114, x124]
    · refine (like_same _ _ _ _ _ _ _ _ (h3.keep hC) hsl hlen).mono ?_
      rintro en w' ⟨rfl, m, rfl⟩
      exact ⟨_, rfl, rfl, below_drewN hC m, fun j u _ _ _ _ h => way15_keep i0 ad a3 N1 k c1 n3 c3 t S xs zs us vs w1 j u w _ (below_drewN (Below.refl _ _) m) h⟩
  | 23, _ =>
    have ho1 := opIs ho (p := .unOp .not 4 (.tmp 125)) (by kernel_rfl)
    have hg := guardIs ho (p := some (10, false)) (by kernel_rfl)
    intro e A w hA hC hp K hk
    have x125 : A.eval (.tmp 125) = .bool true := op_tmp hA hp 125 22 (by kernel_rfl) (by kernel_rfl) (by kernel_rfl) (hz _ rfl)
    have xg : A.eval (.tmp 113) = .bool false := op_tmp hA hp 113 10 (by kernel_rfl) (by kernel_rfl) (by kernel_rfl) (hz _ rfl)
    have hw : Region.wanted o (yielded (regOf Try.f3 15) A.tmps) = true := wanted_tmp hg (by kernel_rfl) xg rfl
    refine step_pure (v := .bool false) hk hC hw ?_ rfl
    unfold execOp
    simp only [ho1]
    generalize A.eval = ρ at x125 ⊢
    simp [go_sem, x125]
  | 24, _ =>
    have ho1 := opIs ho (p := .pick (.tmp 113) (.const (.bool true)) (.tmp 126)) (by kernel_rfl)
    have hg := guardIs ho (p := none) (by kernel_rfl)
    intro e A w hA hC hp K hk
    have x113 : A.eval (.tmp 113) = .bool false := op_tmp hA hp 113 10 (by kernel_rfl) (by kernel_rfl) (by kernel_rfl) (hz _ rfl)
    have x126 : A.eval (.tmp 126) = .bool false := op_tmp hA hp 126 23 (by kernel_rfl) (by kernel_rfl) (by kernel_rfl) (hz _ rfl)
    have hw : Region.wanted o (yielded (regOf Try.f3 15) A.tmps) = true := wanted_free hg
    refine step_pure hk hC hw (run_pick (v := .bool false) ho1 x113 ?_ w) rfl
    first | rfl | exact x126 | exact x113
  | _ + 25, h => exact absurd h (by omega)
end Go.Proofs.Ytdlnabjledhiiaa

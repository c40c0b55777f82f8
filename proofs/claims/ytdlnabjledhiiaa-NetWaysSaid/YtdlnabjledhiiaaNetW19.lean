/-
  The steps of the drawn regions of the law NetWays; conditions: the lengths that the law asks first.
-/
import Derived.Test.YtdlnabjledhiiaaNetAlive
import Derived.Test.YtdlnabjledhiiaaReg
import Derived.IntWalk
namespace Go.Proofs.Ytdlnabjledhiiaa
open Go.RowKit
set_option linter.unusedVariables false

/-- What each operation of the region yields. -/
def way19T (i0 : TypeInfo) (ad : Addr) (a3 : Option Addr) (N1 k c1 n3 c3 : Nat) (t : ByteArray) (S : Value) (xs zs us vs : List ByteArray) (w1 : World) : Nat → Value → World → Prop
  | 0, v, w => v = .bool true
  | 1, v, w => v = .bool true
  | 2, v, w => v = .int .i64 0
  | 3, v, w => v = .bool true
  | 4, v, w => v = .bool true
  | 5, v, w => v = .bool true
  | 6, v, w => v = .slice a3 n3 c3
  | 7, v, w => ∃ g, v = .slice (some ⟨g, 0, none⟩) 0 0 ∧ w.cell? ⟨g, 0, none⟩ = none ∧ g < w.heap.size ∧ w.ownsRow w1.heap.size 9 1 v 0 []
  | 8, v, w => v = .slice (some ad) N1 c1
  | 9, v, w => w.ownsRow w1.heap.size 9 1 v N1 (strs us)
  | 10, v, w => v = .slice (some ad) N1 c1
  | 11, v, w => v = .int .i64 (k : Int)
  | 12, v, w => v = .pointer (some (ad.add k))
  | 13, v, w => v = .string t
  | 14, v, w => ∃ g, v = .slice (some ⟨g, 0, none⟩) 1 1 ∧ w.cell? ⟨g, 0, none⟩ = some (.string t)
  | 15, v, w => ∃ a n c, v = .slice a n c ∧ SlAt w a n (strs zs)
  | 16, v, w => v = .bool true
  | 17, v, w => v = .bool true
  | 18, v, w => v = .bool true
  | _, _, _ => True
def way19D : Nat → List Nat
  | 9 => [7]
  | 15 => [9, 14]
  | _ => []
theorem way19_keep (i0 : TypeInfo) (ad : Addr) (a3 : Option Addr) (N1 k c1 n3 c3 : Nat) (t : ByteArray) (S : Value) (xs zs us vs : List ByteArray) (w1 : World) : ∀ (j : Nat) (u : Value) (w w' : World), Below w.heap.size w w' → (way19T i0 ad a3 N1 k c1 n3 c3 t S xs zs us vs w1) j u w → (way19T i0 ad a3 N1 k c1 n3 c3 t S xs zs us vs w1) j u w'
  | 7, u, w, w', hb, h => by obtain ⟨g, rfl, hn, hl, h⟩ := h; exact ⟨g, rfl, by rw [hb.cell (p := ⟨g, 0, none⟩) hl]; exact hn, Nat.lt_of_lt_of_le hl hb.size, h.kept (grown_below hb none) (by simp [Value.ownBlock])⟩
  | 9, u, w, w', hb, h => h.kept (grown_below hb none) (by by_cases hh : u.ownBlock = none <;> simp [hh])
  | 14, u, w, w', hb, h => by obtain ⟨g, rfl, h⟩ := h; exact ⟨g, rfl, cell_keep hb h⟩
  | 15, u, w, w', hb, h => by obtain ⟨a, n, c, rfl, hs⟩ := h; exact ⟨a, n, c, rfl, hs.keep hb⟩
  | 0, u, w, w', hb, h => h
  | 1, u, w, w', hb, h => h
  | 2, u, w, w', hb, h => h
  | 3, u, w, w', hb, h => h
  | 4, u, w, w', hb, h => h
  | 5, u, w, w', hb, h => h
  | 6, u, w, w', hb, h => h
  | 8, u, w, w', hb, h => h
  | 10, u, w, w', hb, h => h
  | 11, u, w, w', hb, h => h
  | 12, u, w, w', hb, h => h
  | 13, u, w, w', hb, h => h
  | 16, u, w, w', hb, h => h
  | 17, u, w, w', hb, h => h
  | 18, u, w, w', hb, h => h
  | _ + 19, u, w, w', hb, h => trivial
theorem way19_free (i0 : TypeInfo) (ad : Addr) (a3 : Option Addr) (N1 k c1 n3 c3 : Nat) (t : ByteArray) (S : Value) (xs zs us vs : List ByteArray) (w1 : World) : ∀ (j : Nat) (u : Value) (w w' : World), [7, 9, 14, 15].contains j = false → (way19T i0 ad a3 N1 k c1 n3 c3 t S xs zs us vs w1) j u w → (way19T i0 ad a3 N1 k c1 n3 c3 t S xs zs us vs w1) j u w'
  | 7, u, w, w', hb, h => by cases hb
  | 9, u, w, w', hb, h => by cases hb
  | 14, u, w, w', hb, h => by cases hb
  | 15, u, w, w', hb, h => by cases hb
  | 0, u, w, w', hb, h => h
  | 1, u, w, w', hb, h => h
  | 2, u, w, w', hb, h => h
  | 3, u, w, w', hb, h => h
  | 4, u, w, w', hb, h => h
  | 5, u, w, w', hb, h => h
  | 6, u, w, w', hb, h => h
  | 8, u, w, w', hb, h => h
  | 10, u, w, w', hb, h => h
  | 11, u, w, w', hb, h => h
  | 12, u, w, w', hb, h => h
  | 13, u, w, w', hb, h => h
  | 16, u, w, w', hb, h => h
  | 17, u, w, w', hb, h => h
  | 18, u, w, w', hb, h => h
  | _ + 19, u, w, w', hb, h => trivial
set_option maxHeartbeats 4000000 in
theorem way19_steps (i0 : TypeInfo) (ad : Addr) (a3 : Option Addr) (N1 k c1 n3 c3 : Nat) (t : ByteArray) (S : Value) (xs zs us vs : List ByteArray) (w1 : World) (hi : Try.prog.info? 9 = some i0) (hz0 : i0.zero = some (.string ⟨#[]⟩)) (hz1 : i0.size = 1) (hz2 : i0.bytes = 16) (hk1 : Src w1 (.slice (some ad) N1 c1) (strs us)) (hcell : w1.cell? (ad.add k) = some (.string t)) (hkN : k < N1) (hN : N1 ≤ 400) (hus : us.length = N1) (hzs : zs = us ++ [t]) (h3 : SlAt w1 a3 n3 (strs zs)) (hlen : zs.length ≤ 9223372036854775807) {a : Act} (hs : a.tmps.size = 159) (b14 : a.eval (.tmp 14) = .int .i64 0) (b13 : a.eval (.tmp 13) = .slice a3 n3 c3) (b0 : a.eval (.tmp 0) = .slice (some ad) N1 c1) (b2 : a.eval (.tmp 2) = .int .i64 (k : Int)) : ∀ i o, (regOf Try.f3 19)[i]? = some o → StepOk Try.prog (regOf Try.f3 19) a (fun w => Below w1.heap.size w1 w) (way19T i0 ad a3 N1 k c1 n3 c3 t S xs zs us vs w1) way19D i o := by
  have hz : ∀ t, Nat.blt t 159 = true → Nat.blt t a.tmps.size = true := fun t h => by rw [hs]; exact h
  have hsz : (regOf Try.f3 19).size = 19 := by kernel_rfl
  refine of_index 19 hsz ?_
  intro i hii o ho
  match i, hii with
  | 0, _ =>
    have ho1 := opIs ho (p := .call { callee := (.value (.func 13)), args := #[], argTypes := #[] }) (by kernel_rfl)
    have hg := guardIs ho (p := none) (by kernel_rfl)
    intro e A w hA hC hp K hk
    have hw : Region.wanted o (yielded (regOf Try.f3 19) A.tmps) = true := wanted_free hg
    refine step_call (f := 13) (args := #[]) hk hw ?_ ?_
    · unfold execOp
      simp only [ho1]
      have xf : ∀ f, A.eval (.func f) = .func (.func f) #[] #[] := fun _ => rfl
      generalize A.eval = ρ at xf ⊢
      simp [go_sem, xf]
    · refine (alive_any w).mono ?_
      rintro en w' ⟨rfl, hb⟩
      exact ⟨_, rfl, rfl, below_then hC hb hC.size, fun j u _ _ _ _ h => way19_keep i0 ad a3 N1 k c1 n3 c3 t S xs zs us vs w1 j u w _ hb h⟩
  | 1, _ =>
    have ho1 := opIs ho (p := .move (.tmp 141)) (by kernel_rfl)
    have hg := guardIs ho (p := none) (by kernel_rfl)
    intro e A w hA hC hp K hk
    have x141 : A.eval (.tmp 141) = .bool true := op_tmp hA hp 141 0 (by kernel_rfl) (by kernel_rfl) (by kernel_rfl) (hz _ rfl)
    have hw : Region.wanted o (yielded (regOf Try.f3 19) A.tmps) = true := wanted_free hg
    exact step_pure hk hC hw (run_move ho1 x141 w) rfl
  | 2, _ =>
    have ho1 := opIs ho (p := .move (.tmp 14)) (by kernel_rfl)
    have hg := guardIs ho (p := some (1, true)) (by kernel_rfl)
    intro e A w hA hC hp K hk
    have x14 : A.eval (.tmp 14) = .int .i64 0 := filled_base hA (by kernel_rfl) b14
    have xg : A.eval (.tmp 142) = .bool true := op_tmp hA hp 142 1 (by kernel_rfl) (by kernel_rfl) (by kernel_rfl) (hz _ rfl)
    have hw : Region.wanted o (yielded (regOf Try.f3 19) A.tmps) = true := wanted_tmp hg (by kernel_rfl) xg rfl
    exact step_pure hk hC hw (run_move ho1 x14 w) rfl
  | 3, _ =>
    have ho1 := opIs ho (p := .binOp .eql 26 (.tmp 143) (.const (.int .i64 0)) 26) (by kernel_rfl)
    have hg := guardIs ho (p := some (1, true)) (by kernel_rfl)
    intro e A w hA hC hp K hk
    have x143 : A.eval (.tmp 143) = .int .i64 0 := op_tmp hA hp 143 2 (by kernel_rfl) (by kernel_rfl) (by kernel_rfl) (hz _ rfl)
    have xg : A.eval (.tmp 142) = .bool true := op_tmp hA hp 142 1 (by kernel_rfl) (by kernel_rfl) (by kernel_rfl) (hz _ rfl)
    have hw : Region.wanted o (yielded (regOf Try.f3 19) A.tmps) = true := wanted_tmp hg (by kernel_rfl) xg rfl
    refine step_pure (v := .bool true) hk hC hw ?_ rfl
    unfold execOp
    simp only [ho1]
    have xc : ∀ v, A.eval (.const v) = v := fun _ => rfl
    generalize A.eval = ρ at x143 xc ⊢
    simp [go_sem, x143, xc]
  | 4, _ =>
    have ho1 := opIs ho (p := .pick (.tmp 142) (.tmp 144) (.const (.bool false))) (by kernel_rfl)
    have hg := guardIs ho (p := none) (by kernel_rfl)
    intro e A w hA hC hp K hk
    have x142 : A.eval (.tmp 142) = .bool true := op_tmp hA hp 142 1 (by kernel_rfl) (by kernel_rfl) (by kernel_rfl) (hz _ rfl)
    have x144 : A.eval (.tmp 144) = .bool true := op_tmp hA hp 144 3 (by kernel_rfl) (by kernel_rfl) (by kernel_rfl) (hz _ rfl)
    have hw : Region.wanted o (yielded (regOf Try.f3 19) A.tmps) = true := wanted_free hg
    refine step_pure hk hC hw (run_pick (v := .bool true) ho1 x142 ?_ w) rfl
    first | rfl | exact x144 | exact x142
  | 5, _ =>
    have ho1 := opIs ho (p := .move (.tmp 145)) (by kernel_rfl)
    have hg := guardIs ho (p := none) (by kernel_rfl)
    intro e A w hA hC hp K hk
    have x145 : A.eval (.tmp 145) = .bool true := op_tmp hA hp 145 4 (by kernel_rfl) (by kernel_rfl) (by kernel_rfl) (hz _ rfl)
    have hw : Region.wanted o (yielded (regOf Try.f3 19) A.tmps) = true := wanted_free hg
    exact step_pure hk hC hw (run_move ho1 x145 w) rfl
  | 6, _ =>
    have ho1 := opIs ho (p := .move (.tmp 13)) (by kernel_rfl)
    have hg := guardIs ho (p := some (5, true)) (by kernel_rfl)
    intro e A w hA hC hp K hk
    have x13 : A.eval (.tmp 13) = .slice a3 n3 c3 := filled_base hA (by kernel_rfl) b13
    have xg : A.eval (.tmp 146) = .bool true := op_tmp hA hp 146 5 (by kernel_rfl) (by kernel_rfl) (by kernel_rfl) (hz _ rfl)
    have hw : Region.wanted o (yielded (regOf Try.f3 19) A.tmps) = true := wanted_tmp hg (by kernel_rfl) xg rfl
    exact step_pure hk hC hw (run_move ho1 x13 w) rfl
  | 7, _ =>
    have ho1 := opIs ho (p := .buildSlice 22 0 #[]) (by kernel_rfl)
    have hg := guardIs ho (p := some (5, true)) (by kernel_rfl)
    intro e A w hA hC hp K hk
    have xg : A.eval (.tmp 146) = .bool true := op_tmp hA hp 146 5 (by kernel_rfl) (by kernel_rfl) (by kernel_rfl) (hz _ rfl)
    have hw : Region.wanted o (yielded (regOf Try.f3 19) A.tmps) = true := wanted_tmp hg (by kernel_rfl) xg rfl
    refine step_value (v := .slice (some ⟨w.heap.size, 0, none⟩) 0 0) (w' := w.alloc (.cells #[] 9)) hk hw ?_ ?_ ?_ ?_
    · unfold execOp
      simp only [ho1]
      simp [go_sem]
    · refine ⟨_, rfl, ?_, by simp, row_base (World.ownsRow_made w #[] 0 (Nat.le_refl _) (Nat.zero_le _) rfl) hC.size⟩
      unfold World.cell?
      rw [show (w.alloc (.cells #[] 9)).heap[w.heap.size]? = _ from heap_alloc_new w _]
      rfl
    · exact hC.alloc hC.size _
    · intro j u _ _ _ _ h
      exact way19_keep i0 ad a3 N1 k c1 n3 c3 t S xs zs us vs w1 j u w _ ((Below.refl _ w).alloc (Nat.le_refl _) _) h
  | 8, _ =>
    have ho1 := opIs ho (p := .move (.tmp 0)) (by kernel_rfl)
    have hg := guardIs ho (p := some (5, true)) (by kernel_rfl)
    intro e A w hA hC hp K hk
    have x0 : A.eval (.tmp 0) = .slice (some ad) N1 c1 := filled_base hA (by kernel_rfl) b0
    have xg : A.eval (.tmp 146) = .bool true := op_tmp hA hp 146 5 (by kernel_rfl) (by kernel_rfl) (by kernel_rfl) (hz _ rfl)
    have hw : Region.wanted o (yielded (regOf Try.f3 19) A.tmps) = true := wanted_tmp hg (by kernel_rfl) xg rfl
    exact step_pure hk hC hw (run_move ho1 x0 w) rfl
  | 9, _ =>
    have ho1 := opIs ho (p := .call { callee := (.builtin .append), args := #[(.tmp 148), (.tmp 149)], argTypes := #[22, 22] }) (by kernel_rfl)
    have hg := guardIs ho (p := some (5, true)) (by kernel_rfl)
    intro e A w hA hC hp K hk
    have x148 := op_tmp hA hp 148 7 (by kernel_rfl) (by kernel_rfl) (by kernel_rfl) (hz _ rfl)
    have x149 : A.eval (.tmp 149) = .slice (some ad) N1 c1 := op_tmp hA hp 149 8 (by kernel_rfl) (by kernel_rfl) (by kernel_rfl) (hz _ rfl)
    have xg : A.eval (.tmp 146) = .bool true := op_tmp hA hp 146 5 (by kernel_rfl) (by kernel_rfl) (by kernel_rfl) (hz _ rfl)
    have hw : Region.wanted o (yielded (regOf Try.f3 19) A.tmps) = true := wanted_tmp hg (by kernel_rfl) xg rfl
    obtain ⟨g, x148, hnone, _, hown⟩ := x148
    refine step_appS w hw _ _ 22 ho1 w1.heap.size 9 i0 (.string ⟨#[]⟩) 16 Try.underlying22 hi hz0 hz1 hz2 rfl _ 0 [] hown rfl _ (strs us) x149 (hk1.keep hC) (strs_one _) (by rw [strs_length]; unfold maxLen; omega) (by rw [strs_length]; omega) hC.size ?_
    intro v' w' ho' hg'
    refine hk v' w' ?_ (hC.grown hg' hC.size (fun x e => (hown.lt x e).1)) ?_
    · show w'.ownsRow _ _ 1 v' N1 (strs us)
      rw [Nat.zero_add, List.nil_append, strs_length, hus] at ho'; exact ho'
    · intro j u _ hne hwt hdr h
      by_cases h14 : j = 14
      · subst h14
        obtain ⟨b, rfl, hc⟩ := h
        refine ⟨b, rfl, hg'.cell hc (fun he => ?_)⟩
        rw [x148] at he
        simp [Value.ownBlock] at he
        subst he
        rw [hnone] at hc; cases hc
      refine way19_free i0 ad a3 N1 k c1 n3 c3 t S xs zs us vs w1 j u w w' ?_ h
      by_cases h1 : j = 7
      · subst h1; exact absurd rfl (hdr 9 (by rw [show _ = _ from hsz]; decide) rfl).1
      by_cases h2 : j = 15
      · subst h2; exact absurd (show _ = true from by kernel_rfl : (waits _ 15).contains 9 = true) (by rw [hwt]; decide)
      · simp; omega
  | 10, _ =>
    have ho1 := opIs ho (p := .move (.tmp 0)) (by kernel_rfl)
    have hg := guardIs ho (p := some (5, true)) (by kernel_rfl)
    intro e A w hA hC hp K hk
    have x0 : A.eval (.tmp 0) = .slice (some ad) N1 c1 := filled_base hA (by kernel_rfl) b0
    have xg : A.eval (.tmp 146) = .bool true := op_tmp hA hp 146 5 (by kernel_rfl) (by kernel_rfl) (by kernel_rfl) (hz _ rfl)
    have hw : Region.wanted o (yielded (regOf Try.f3 19) A.tmps) = true := wanted_tmp hg (by kernel_rfl) xg rfl
    exact step_pure hk hC hw (run_move ho1 x0 w) rfl
  | 11, _ =>
    have ho1 := opIs ho (p := .move (.tmp 2)) (by kernel_rfl)
    have hg := guardIs ho (p := some (5, true)) (by kernel_rfl)
    intro e A w hA hC hp K hk
    have x2 : A.eval (.tmp 2) = .int .i64 (k : Int) := filled_base hA (by kernel_rfl) b2
    have xg : A.eval (.tmp 146) = .bool true := op_tmp hA hp 146 5 (by kernel_rfl) (by kernel_rfl) (by kernel_rfl) (hz _ rfl)
    have hw : Region.wanted o (yielded (regOf Try.f3 19) A.tmps) = true := wanted_tmp hg (by kernel_rfl) xg rfl
    exact step_pure hk hC hw (run_move ho1 x2 w) rfl
  | 12, _ =>
    have ho1 := opIs ho (p := .indexAddr 22 (.tmp 151) (.tmp 152)) (by kernel_rfl)
    have hg := guardIs ho (p := some (5, true)) (by kernel_rfl)
    intro e A w hA hC hp K hk
    have x151 : A.eval (.tmp 151) = .slice (some ad) N1 c1 := op_tmp hA hp 151 10 (by kernel_rfl) (by kernel_rfl) (by kernel_rfl) (hz _ rfl)
    have x152 : A.eval (.tmp 152) = .int .i64 (k : Int) := op_tmp hA hp 152 11 (by kernel_rfl) (by kernel_rfl) (by kernel_rfl) (hz _ rfl)
    have xg : A.eval (.tmp 146) = .bool true := op_tmp hA hp 146 5 (by kernel_rfl) (by kernel_rfl) (by kernel_rfl) (hz _ rfl)
    have hw : Region.wanted o (yielded (regOf Try.f3 19) A.tmps) = true := wanted_tmp hg (by kernel_rfl) xg rfl
    refine step_pure (v := .pointer (some (ad.add k))) hk hC hw ?_ rfl
    unfold execOp
    simp only [ho1]
    have e1 : (k : Int) < (N1 : Int) := by omega
    generalize A.eval = ρ at x151 x152 ⊢
    simp [go_sem, x151, x152, e1]
  | 13, _ =>
    have ho1 := opIs ho (p := .load 9 (.tmp 153)) (by kernel_rfl)
    have hg := guardIs ho (p := some (5, true)) (by kernel_rfl)
    intro e A w hA hC hp K hk
    have x153 : A.eval (.tmp 153) = .pointer (some (ad.add k)) := op_tmp hA hp 153 12 (by kernel_rfl) (by kernel_rfl) (by kernel_rfl) (hz _ rfl)
    have xg : A.eval (.tmp 146) = .bool true := op_tmp hA hp 146 5 (by kernel_rfl) (by kernel_rfl) (by kernel_rfl) (hz _ rfl)
    have hw : Region.wanted o (yielded (regOf Try.f3 19) A.tmps) = true := wanted_tmp hg (by kernel_rfl) xg rfl
    refine step_pure (v := .string t) hk hC hw ?_ rfl
    unfold execOp
    simp only [ho1]
    have e1 := cell_keep hC hcell
    generalize A.eval = ρ at x153 ⊢
    simp [go_sem, x153, e1]
  | 14, _ =>
    have ho1 := opIs ho (p := .buildSlice 22 1 #[(0, (.tmp 154))]) (by kernel_rfl)
    have hg := guardIs ho (p := some (5, true)) (by kernel_rfl)
    intro e A w hA hC hp K hk
    have x154 : A.eval (.tmp 154) = .string t := op_tmp hA hp 154 13 (by kernel_rfl) (by kernel_rfl) (by kernel_rfl) (hz _ rfl)
    have xg : A.eval (.tmp 146) = .bool true := op_tmp hA hp 146 5 (by kernel_rfl) (by kernel_rfl) (by kernel_rfl) (hz _ rfl)
    have hw : Region.wanted o (yielded (regOf Try.f3 19) A.tmps) = true := wanted_tmp hg (by kernel_rfl) xg rfl
    refine step_value (v := .slice (some ⟨w.heap.size, 0, none⟩) 1 1) (w' := w.alloc (.cells #[.string t] 9)) hk hw ?_ ?_ ?_ ?_
    · unfold execOp
      simp only [ho1]
      generalize A.eval = ρ at x154 ⊢
      simp [go_sem, x154]
    · exact ⟨_, rfl, cell_one_new w _ _ 0 _ rfl⟩
    · exact hC.alloc hC.size _
    · intro j u _ _ _ _ h
      exact way19_keep i0 ad a3 N1 k c1 n3 c3 t S xs zs us vs w1 j u w _ ((Below.refl _ w).alloc (Nat.le_refl _) _) h
  | 15, _ =>
    have ho1 := opIs ho (p := .call { callee := (.builtin .append), args := #[(.tmp 150), (.tmp 155)], argTypes := #[22, 22] }) (by kernel_rfl)
    have hg := guardIs ho (p := some (5, true)) (by kernel_rfl)
    intro e A w hA hC hp K hk
    have x150 := op_tmp hA hp 150 9 (by kernel_rfl) (by kernel_rfl) (by kernel_rfl) (hz _ rfl)
    have x155 := op_tmp hA hp 155 14 (by kernel_rfl) (by kernel_rfl) (by kernel_rfl) (hz _ rfl)
    have xg : A.eval (.tmp 146) = .bool true := op_tmp hA hp 146 5 (by kernel_rfl) (by kernel_rfl) (by kernel_rfl) (hz _ rfl)
    have hw : Region.wanted o (yielded (regOf Try.f3 19) A.tmps) = true := wanted_tmp hg (by kernel_rfl) xg rfl
    obtain ⟨g, x155, hcg⟩ := x155
    have hsrc : Src w (.slice (some ⟨g, 0, none⟩) 1 1) [.string t] := .inr ⟨_, 1, 1, rfl, rfl, Nat.le_refl _, fun j u hj => by
      match j, hj with
      | 0, hj => simp at hj; subst hj; simpa [Addr.add] using hcg⟩
    refine step_appS w hw _ _ 22 ho1 w1.heap.size 9 i0 (.string ⟨#[]⟩) 16 Try.underlying22 hi hz0 hz1 hz2 rfl _ N1 (strs us) x150 rfl _ [.string t] x155 hsrc (by simp [Value.oneCell']) (by simp; unfold maxLen; omega) (by simp; omega) hC.size ?_
    intro v' w' ho' hg'
    refine hk v' w' ?_ (hC.grown hg' hC.size (fun x e => (x150.lt x e).1)) ?_
    · rw [← strs_snoc, ← hzs] at ho'
      obtain ⟨a5, n5, c5, hv5, hsl5, hfr5, hnc5⟩ := own_slice ho'
      subst hv5
      exact ⟨a5, n5, c5, rfl, hsl5⟩
    · intro j u _ hne hwt hdr h
      refine way19_free i0 ad a3 N1 k c1 n3 c3 t S xs zs us vs w1 j u w w' ?_ h
      by_cases h1 : j = 9
      · subst h1; exact absurd rfl (hdr 15 (by rw [show _ = _ from hsz]; decide) rfl).1
      by_cases h2 : j = 14
      · subst h2; exact absurd rfl (hdr 15 (by rw [show _ = _ from hsz]; decide) rfl).1
      by_cases h3 : j = 7
      · subst h3
        obtain ⟨y, hy, _⟩ := hp 9 (by kernel_rfl)
        have := (hdr 9 (by rw [show _ = _ from hsz]; decide) rfl).2
        rw [hy] at this; cases this
      · simp; omega
  | 16, _ =>
    have ho1 := opIs ho (p := .call { callee := (.value (.func 10)), args := #[(.tmp 147), (.tmp 156)], argTypes := #[22, 22] }) (by kernel_rfl)
    have hg := guardIs ho (p := some (5, true)) (by kernel_rfl)
    intro e A w hA hC hp K hk
    have x147 : A.eval (.tmp 147) = .slice a3 n3 c3 := op_tmp hA hp 147 6 (by kernel_rfl) (by kernel_rfl) (by kernel_rfl) (hz _ rfl)
    have x156 := op_tmp hA hp 156 15 (by kernel_rfl) (by kernel_rfl) (by kernel_rfl) (hz _ rfl)
    have xg : A.eval (.tmp 146) = .bool true := op_tmp hA hp 146 5 (by kernel_rfl) (by kernel_rfl) (by kernel_rfl) (hz _ rfl)
    have hw : Region.wanted o (yielded (regOf Try.f3 19) A.tmps) = true := wanted_tmp hg (by kernel_rfl) xg rfl
    obtain ⟨a, n, c, x156, hsl⟩ := x156
    refine step_call (f := 10) (args := #[.slice a3 n3 c3, .slice a n c]) hk hw ?_ ?_
    · unfold execOp
      simp only [ho1]
      have xf : ∀ f, A.eval (.func f) = .func (.func f) #[] #[] := fun _ => rfl
      generalize A.eval = ρ at x147 x156 xf ⊢
      simp [go_sem, xf, x147, x156]
    · refine (like_same _ _ _ _ _ _ _ _ (h3.keep hC) hsl hlen).mono ?_
      rintro en w' ⟨rfl, m, rfl⟩
      exact ⟨_, rfl, rfl, below_drewN hC m, fun j u _ _ _ _ h => way19_keep i0 ad a3 N1 k c1 n3 c3 t S xs zs us vs w1 j u w _ (below_drewN (Below.refl _ _) m) h⟩
  | 17, _ =>
    have ho1 := opIs ho (p := .pick (.tmp 146) (.tmp 157) (.const (.bool false))) (by kernel_rfl)
    have hg := guardIs ho (p := none) (by kernel_rfl)
    intro e A w hA hC hp K hk
    have x146 : A.eval (.tmp 146) = .bool true := op_tmp hA hp 146 5 (by kernel_rfl) (by kernel_rfl) (by kernel_rfl) (hz _ rfl)
    have x157 : A.eval (.tmp 157) = .bool true := op_tmp hA hp 157 16 (by kernel_rfl) (by kernel_rfl) (by kernel_rfl) (hz _ rfl)
    have hw : Region.wanted o (yielded (regOf Try.f3 19) A.tmps) = true := wanted_free hg
    refine step_pure hk hC hw (run_pick (v := .bool true) ho1 x146 ?_ w) rfl
    first | rfl | exact x157 | exact x146
  | 18, _ =>
    have ho1 := opIs ho (p := .assign (.tmp 158)) (by kernel_rfl)
    have hg := guardIs ho (p := none) (by kernel_rfl)
    intro e A w hA hC hp K hk
    have x158 : A.eval (.tmp 158) = .bool true := op_tmp hA hp 158 17 (by kernel_rfl) (by kernel_rfl) (by kernel_rfl) (hz _ rfl)
    have hw : Region.wanted o (yielded (regOf Try.f3 19) A.tmps) = true := wanted_free hg
    exact step_pure hk hC hw (run_assign ho1 x158 w) rfl
  | _ + 19, h => exact absurd h (by omega)
end Go.Proofs.Ytdlnabjledhiiaa

/-
  A region of hornbookref07.Bytes that draws its order (a copy as a value, appended to the list); without a condition. (Written by wip/mkrb.py.)
-/
import Derived.Test.YtdlnabjledhiiaaDoorRegE
import Derived.Test.YtdlnabjledhiiaaDoorMk
namespace Go.Proofs.YtdlnabjledhiiaaDoor
open Go.RowKit
set_option linter.unusedVariables false

theorem rnum_any (n : Int) (w : World) : Calls Tryd.prog 29 #[.int .i64 n] w (fun e w' => e = .returned (.agg #[.int .i64 1, .int .i64 n, .string ⟨#[]⟩, .slice none 0 0]) ∧ Below w.heap.size w w') := by
  go_enter Tryd.func29, Tryd.ntmps29
  go_wp2_with fail
  refine bodyPost_ret (v := .agg #[.int .i64 1, .int .i64 n, .string ⟨#[]⟩, .slice none 0 0]) ?_ rfl ?_
  · exact results_cell_row (p := 2) rfl _ _ w.heap.size 42 _ (0, 0) _ rfl (heap_alloc_new w _) Tryd.underlying42 rfl (by kernel_rfl)
  · exact ⟨rfl, (Below.refl _ w).alloc (Nat.le_refl _) _⟩
/-- What each operation of the region yields. -/
def rbrT (bx B6 : Nat) (va : Option Addr) (vc : Nat) (acc : List V) (cells : List Value) (f l : Int) (t : ByteArray) (w0 w1 : World) : Nat → Value → World → Prop
  | 0, v, w => v = .pointer (some ⟨bx, 3, none⟩)
  | 1, v, w => v = .slice va acc.length vc
  | 2, v, w => v = .pointer (some ⟨B6, 0, none⟩)
  | 3, v, w => v = .int .i64 f
  | 4, v, w => v = .agg #[.int .i64 1, .int .i64 f, .string ⟨#[]⟩, .slice none 0 0]
  | 5, v, w => v = .pointer (some ⟨B6, 1, none⟩)
  | 6, v, w => v = .int .i64 l
  | 7, v, w => v = .agg #[.int .i64 1, .int .i64 l, .string ⟨#[]⟩, .slice none 0 0]
  | 8, v, w => ∃ b, v = .slice (some ⟨b, 0, none⟩) 2 2 ∧ B6 < b ∧ w.heap[b]? = some (.cells #[.int .i64 1, .int .i64 f, .string ⟨#[]⟩, .slice none 0 0, .int .i64 1, .int .i64 l, .string ⟨#[]⟩, .slice none 0 0] 42 (0, 0))
  | 9, v, w => ∃ b, v = .agg #[.int .i64 3, .int .i64 0, .string ⟨#[]⟩, .slice (some ⟨b, 0, none⟩) 2 2] ∧ B6 < b ∧ w.heap[b]? = some (.cells #[.int .i64 1, .int .i64 f, .string ⟨#[]⟩, .slice none 0 0, .int .i64 1, .int .i64 l, .string ⟨#[]⟩, .slice none 0 0] 42 (0, 0))
  | 10, v, w => ∃ b c, v = .slice (some ⟨c, 0, none⟩) 1 1 ∧ (B6 < b ∧ w.heap[b]? = some (.cells #[.int .i64 1, .int .i64 f, .string ⟨#[]⟩, .slice none 0 0, .int .i64 1, .int .i64 l, .string ⟨#[]⟩, .slice none 0 0] 42 (0, 0))) ∧ w.heap[c]? = some (.cells #[.int .i64 3, .int .i64 0, .string ⟨#[]⟩, .slice (some ⟨b, 0, none⟩) 2 2] 42 (0, 0))
  | 11, v, w => ∃ a3 c3 cells3, v = .slice a3 (acc.length + 1) c3 ∧ Made bx acc (.mk 3 0 ⟨#[]⟩ [.mk 1 f ⟨#[]⟩ [], .mk 1 l ⟨#[]⟩ []]) va vc a3 c3 cells3 w
  | 12, v, w => v = .pointer (some ⟨bx, 3, none⟩)
  | _, _, _ => True
def rbrD : Nat → List Nat
  | 11 => [10]
  | _ => []
theorem rbr_keep (bx B6 : Nat) (va : Option Addr) (vc : Nat) (acc : List V) (cells : List Value) (f l : Int) (t : ByteArray) (w0 w1 : World) : ∀ (j : Nat) (u : Value) (w w' : World), Below w.heap.size w w' → (rbrT bx B6 va vc acc cells f l t w0 w1) j u w → (rbrT bx B6 va vc acc cells f l t w0 w1) j u w'
  | 8, u, w, w', hb, h => by obtain ⟨b, rfl, h1, h2⟩ := h; exact ⟨b, rfl, h1, (hb.block _ (lt_of_block h2)).trans h2⟩
  | 9, u, w, w', hb, h => by obtain ⟨b, rfl, h1, h2⟩ := h; exact ⟨b, rfl, h1, (hb.block _ (lt_of_block h2)).trans h2⟩
  | 10, u, w, w', hb, h => by obtain ⟨b, c, rfl, ⟨h1, h2⟩, h3⟩ := h; exact ⟨b, c, rfl, ⟨h1, (hb.block _ (lt_of_block h2)).trans h2⟩, (hb.block _ (lt_of_block h3)).trans h3⟩
  | 11, u, w, w', hb, h => by obtain ⟨a3, c3, cells3, rfl, h1⟩ := h; exact ⟨a3, c3, cells3, rfl, h1.under hb⟩
  | 0, u, w, w', hb, h => h
  | 1, u, w, w', hb, h => h
  | 2, u, w, w', hb, h => h
  | 3, u, w, w', hb, h => h
  | 4, u, w, w', hb, h => h
  | 5, u, w, w', hb, h => h
  | 6, u, w, w', hb, h => h
  | 7, u, w, w', hb, h => h
  | 12, u, w, w', hb, h => h
  | _ + 13, u, w, w', hb, h => trivial
theorem rbr_free (bx B6 : Nat) (va : Option Addr) (vc : Nat) (acc : List V) (cells : List Value) (f l : Int) (t : ByteArray) (w0 w1 : World) : ∀ (j : Nat) (u : Value) (w w' : World), [8, 9, 10, 11].contains j = false → (rbrT bx B6 va vc acc cells f l t w0 w1) j u w → (rbrT bx B6 va vc acc cells f l t w0 w1) j u w'
  | 8, u, w, w', hb, h => by cases hb
  | 9, u, w, w', hb, h => by cases hb
  | 10, u, w, w', hb, h => by cases hb
  | 11, u, w, w', hb, h => by cases hb
  | 0, u, w, w', hb, h => h
  | 1, u, w, w', hb, h => h
  | 2, u, w, w', hb, h => h
  | 3, u, w, w', hb, h => h
  | 4, u, w, w', hb, h => h
  | 5, u, w, w', hb, h => h
  | 6, u, w, w', hb, h => h
  | 7, u, w, w', hb, h => h
  | 12, u, w, w', hb, h => h
  | _ + 13, u, w, w', hb, h => trivial
set_option maxHeartbeats 4000000 in
theorem rbr_steps (bx B6 : Nat) (va : Option Addr) (vc : Nat) (acc : List V) (cells : List Value) (f l : Int) (t : ByteArray) (w0 w1 : World) (hB : w0.heap.size ≤ bx) (h46 : bx < B6) (hB6 : B6 < w1.heap.size) (hvl : ∀ k, (Value.slice va acc.length vc).ownBlock = some k → k < B6) (hn : acc.length ≤ 1000000) (hV : Tryd.prog.underlying 40 = some (.slice 42)) {a : Act} (hs : a.tmps.size = 46) (b4 : a.eval (.tmp 4) = .pointer (some ⟨bx, 0, none⟩)) (b6 : a.eval (.tmp 6) = .pointer (some ⟨B6, 0, none⟩)) : ∀ i o, i < 13 → (regOf Tryd.f13 8)[i]? = some o → StepOkE Tryd.prog (regOf Tryd.f13 8) a (fun e w => (fun w => Below w0.heap.size w0 w ∧ w1.heap.size ≤ w.heap.size ∧ w.heap[B6]? = some (.cells #[.int .i64 f, .int .i64 l, .string t] 32 (0, 0))) w ∧ (e 11 = none → (fun w => Making bx acc va vc cells w) w)) (rbrT bx B6 va vc acc cells f l t w0 w1) rbrD i o := by
  have hz : ∀ t, Nat.blt t 46 = true → Nat.blt t a.tmps.size = true := fun t h => by rw [hs]; exact h
  have hsz : (regOf Tryd.f13 8).size = 14 := by kernel_rfl
  intro i o hii ho
  match i, hii with
  | 0, _ =>
    have ho1 := opIs ho (p := .fieldAddr 42 (.tmp 4) 3) (by kernel_rfl)
    have hg := guardIs ho (p := none) (by kernel_rfl)
    intro e A w hA hC hp hup K hk
    have hM := hC.2 (hup 11 (by kernel_rfl))
    replace hC := hC.1
    replace hk : Next (regOf Tryd.f13 8) (fun w => (fun w => Below w0.heap.size w0 w ∧ w1.heap.size ≤ w.heap.size ∧ w.heap[B6]? = some (.cells #[.int .i64 f, .int .i64 l, .string t] 32 (0, 0))) w ∧ (fun w => Making bx acc va vc cells w) w) (rbrT bx B6 va vc acc cells f l t w0 w1) rbrD 0 e A w o.dst K := hk.next fun v w h => ⟨h.1, fun _ => h.2⟩
    have hCM := And.intro hC hM
    have x4 : A.eval (.tmp 4) = .pointer (some ⟨bx, 0, none⟩) := filled_base hA (by kernel_rfl) b4
    have hw : Region.wanted o (yielded (regOf Tryd.f13 8) A.tmps) = true := wanted_free hg
    refine step_pure (v := .pointer (some ⟨bx, 3, none⟩)) hk hCM hw ?_ rfl
    unfold execOp
    simp only [ho1]
    generalize A.eval = ρ at x4 ⊢
    simp [go_sem, x4]
  | 1, _ =>
    have ho1 := opIs ho (p := .load 40 (.tmp 20)) (by kernel_rfl)
    have hg := guardIs ho (p := none) (by kernel_rfl)
    intro e A w hA hC hp hup K hk
    have hM := hC.2 (hup 11 (by kernel_rfl))
    replace hC := hC.1
    replace hk : Next (regOf Tryd.f13 8) (fun w => (fun w => Below w0.heap.size w0 w ∧ w1.heap.size ≤ w.heap.size ∧ w.heap[B6]? = some (.cells #[.int .i64 f, .int .i64 l, .string t] 32 (0, 0))) w ∧ (fun w => Making bx acc va vc cells w) w) (rbrT bx B6 va vc acc cells f l t w0 w1) rbrD 1 e A w o.dst K := hk.next fun v w h => ⟨h.1, fun _ => h.2⟩
    have hCM := And.intro hC hM
    have x20 : A.eval (.tmp 20) = .pointer (some ⟨bx, 3, none⟩) := op_tmp hA hp 20 0 (by kernel_rfl) (by kernel_rfl) (by kernel_rfl) (hz _ rfl)
    have hw : Region.wanted o (yielded (regOf Tryd.f13 8) A.tmps) = true := wanted_free hg
    have e1 := hM.box.c3
    refine step_pure (v := .slice va acc.length vc) hk hCM hw ?_ rfl
    unfold execOp
    simp only [ho1]
    generalize A.eval = ρ at x20 ⊢
    simp [go_sem, x20, e1]
  | 2, _ =>
    have ho1 := opIs ho (p := .fieldAddr 32 (.tmp 6) 0) (by kernel_rfl)
    have hg := guardIs ho (p := none) (by kernel_rfl)
    intro e A w hA hC hp hup K hk
    have hM := hC.2 (hup 11 (by kernel_rfl))
    replace hC := hC.1
    replace hk : Next (regOf Tryd.f13 8) (fun w => (fun w => Below w0.heap.size w0 w ∧ w1.heap.size ≤ w.heap.size ∧ w.heap[B6]? = some (.cells #[.int .i64 f, .int .i64 l, .string t] 32 (0, 0))) w ∧ (fun w => Making bx acc va vc cells w) w) (rbrT bx B6 va vc acc cells f l t w0 w1) rbrD 2 e A w o.dst K := hk.next fun v w h => ⟨h.1, fun _ => h.2⟩
    have hCM := And.intro hC hM
    have x6 : A.eval (.tmp 6) = .pointer (some ⟨B6, 0, none⟩) := filled_base hA (by kernel_rfl) b6
    have hw : Region.wanted o (yielded (regOf Tryd.f13 8) A.tmps) = true := wanted_free hg
    refine step_pure (v := .pointer (some ⟨B6, 0, none⟩)) hk hCM hw ?_ rfl
    unfold execOp
    simp only [ho1]
    generalize A.eval = ρ at x6 ⊢
    simp [go_sem, x6]
  | 3, _ =>
    have ho1 := opIs ho (p := .load 3 (.tmp 22)) (by kernel_rfl)
    have hg := guardIs ho (p := none) (by kernel_rfl)
    intro e A w hA hC hp hup K hk
    have hM := hC.2 (hup 11 (by kernel_rfl))
    replace hC := hC.1
    replace hk : Next (regOf Tryd.f13 8) (fun w => (fun w => Below w0.heap.size w0 w ∧ w1.heap.size ≤ w.heap.size ∧ w.heap[B6]? = some (.cells #[.int .i64 f, .int .i64 l, .string t] 32 (0, 0))) w ∧ (fun w => Making bx acc va vc cells w) w) (rbrT bx B6 va vc acc cells f l t w0 w1) rbrD 3 e A w o.dst K := hk.next fun v w h => ⟨h.1, fun _ => h.2⟩
    have hCM := And.intro hC hM
    have x22 : A.eval (.tmp 22) = .pointer (some ⟨B6, 0, none⟩) := op_tmp hA hp 22 2 (by kernel_rfl) (by kernel_rfl) (by kernel_rfl) (hz _ rfl)
    have hw : Region.wanted o (yielded (regOf Tryd.f13 8) A.tmps) = true := wanted_free hg
    have e1 := (Lib.cell_of_heap hC.2.2 0).trans (show _ = some (Value.int .i64 f) from rfl)
    refine step_pure (v := .int .i64 f) hk hCM hw ?_ rfl
    unfold execOp
    simp only [ho1]
    generalize A.eval = ρ at x22 ⊢
    simp [go_sem, x22, e1]
  | 4, _ =>
    have ho1 := opIs ho (p := .call { callee := (.value (.func 29)), args := #[(.tmp 23)], argTypes := #[3] }) (by kernel_rfl)
    have hg := guardIs ho (p := none) (by kernel_rfl)
    intro e A w hA hC hp hup K hk
    have hM := hC.2 (hup 11 (by kernel_rfl))
    replace hC := hC.1
    replace hk : Next (regOf Tryd.f13 8) (fun w => (fun w => Below w0.heap.size w0 w ∧ w1.heap.size ≤ w.heap.size ∧ w.heap[B6]? = some (.cells #[.int .i64 f, .int .i64 l, .string t] 32 (0, 0))) w ∧ (fun w => Making bx acc va vc cells w) w) (rbrT bx B6 va vc acc cells f l t w0 w1) rbrD 4 e A w o.dst K := hk.next fun v w h => ⟨h.1, fun _ => h.2⟩
    have hCM := And.intro hC hM
    have x23 : A.eval (.tmp 23) = .int .i64 f := op_tmp hA hp 23 3 (by kernel_rfl) (by kernel_rfl) (by kernel_rfl) (hz _ rfl)
    have hw : Region.wanted o (yielded (regOf Tryd.f13 8) A.tmps) = true := wanted_free hg
    refine step_call (f := 29) (args := #[.int .i64 f]) hk hw ?_ ?_
    · unfold execOp
      simp only [ho1]
      have xf : ∀ f, A.eval (.func f) = .func (.func f) #[] #[] := fun _ => rfl
      generalize A.eval = ρ at x23 xf ⊢
      simp [go_sem, xf, x23]
    · refine (rnum_any f w).mono ?_
      rintro en w' ⟨rfl, hb'⟩
      exact ⟨_, rfl, rfl, ⟨⟨hC.1.trans (Below.lower hb' hC.1.size), Nat.le_trans hC.2.1 hb'.size, (hb'.block _ (lt_of_block hC.2.2)).trans hC.2.2⟩, hM.under hb'⟩, fun j u _ _ _ _ h => rbr_keep bx B6 va vc acc cells f l t w0 w1 j u w _ hb' h⟩
  | 5, _ =>
    have ho1 := opIs ho (p := .fieldAddr 32 (.tmp 6) 1) (by kernel_rfl)
    have hg := guardIs ho (p := none) (by kernel_rfl)
    intro e A w hA hC hp hup K hk
    have hM := hC.2 (hup 11 (by kernel_rfl))
    replace hC := hC.1
    replace hk : Next (regOf Tryd.f13 8) (fun w => (fun w => Below w0.heap.size w0 w ∧ w1.heap.size ≤ w.heap.size ∧ w.heap[B6]? = some (.cells #[.int .i64 f, .int .i64 l, .string t] 32 (0, 0))) w ∧ (fun w => Making bx acc va vc cells w) w) (rbrT bx B6 va vc acc cells f l t w0 w1) rbrD 5 e A w o.dst K := hk.next fun v w h => ⟨h.1, fun _ => h.2⟩
    have hCM := And.intro hC hM
    have x6 : A.eval (.tmp 6) = .pointer (some ⟨B6, 0, none⟩) := filled_base hA (by kernel_rfl) b6
    have hw : Region.wanted o (yielded (regOf Tryd.f13 8) A.tmps) = true := wanted_free hg
    refine step_pure (v := .pointer (some ⟨B6, 1, none⟩)) hk hCM hw ?_ rfl
    unfold execOp
    simp only [ho1]
    generalize A.eval = ρ at x6 ⊢
    simp [go_sem, x6]
  | 6, _ =>
    have ho1 := opIs ho (p := .load 3 (.tmp 25)) (by kernel_rfl)
    have hg := guardIs ho (p := none) (by kernel_rfl)
    intro e A w hA hC hp hup K hk
    have hM := hC.2 (hup 11 (by kernel_rfl))
    replace hC := hC.1
    replace hk : Next (regOf Tryd.f13 8) (fun w => (fun w => Below w0.heap.size w0 w ∧ w1.heap.size ≤ w.heap.size ∧ w.heap[B6]? = some (.cells #[.int .i64 f, .int .i64 l, .string t] 32 (0, 0))) w ∧ (fun w => Making bx acc va vc cells w) w) (rbrT bx B6 va vc acc cells f l t w0 w1) rbrD 6 e A w o.dst K := hk.next fun v w h => ⟨h.1, fun _ => h.2⟩
    have hCM := And.intro hC hM
    have x25 : A.eval (.tmp 25) = .pointer (some ⟨B6, 1, none⟩) := op_tmp hA hp 25 5 (by kernel_rfl) (by kernel_rfl) (by kernel_rfl) (hz _ rfl)
    have hw : Region.wanted o (yielded (regOf Tryd.f13 8) A.tmps) = true := wanted_free hg
    have e1 := (Lib.cell_of_heap hC.2.2 1).trans (show _ = some (Value.int .i64 l) from rfl)
    refine step_pure (v := .int .i64 l) hk hCM hw ?_ rfl
    unfold execOp
    simp only [ho1]
    generalize A.eval = ρ at x25 ⊢
    simp [go_sem, x25, e1]
  | 7, _ =>
    have ho1 := opIs ho (p := .call { callee := (.value (.func 29)), args := #[(.tmp 26)], argTypes := #[3] }) (by kernel_rfl)
    have hg := guardIs ho (p := none) (by kernel_rfl)
    intro e A w hA hC hp hup K hk
    have hM := hC.2 (hup 11 (by kernel_rfl))
    replace hC := hC.1
    replace hk : Next (regOf Tryd.f13 8) (fun w => (fun w => Below w0.heap.size w0 w ∧ w1.heap.size ≤ w.heap.size ∧ w.heap[B6]? = some (.cells #[.int .i64 f, .int .i64 l, .string t] 32 (0, 0))) w ∧ (fun w => Making bx acc va vc cells w) w) (rbrT bx B6 va vc acc cells f l t w0 w1) rbrD 7 e A w o.dst K := hk.next fun v w h => ⟨h.1, fun _ => h.2⟩
    have hCM := And.intro hC hM
    have x26 : A.eval (.tmp 26) = .int .i64 l := op_tmp hA hp 26 6 (by kernel_rfl) (by kernel_rfl) (by kernel_rfl) (hz _ rfl)
    have hw : Region.wanted o (yielded (regOf Tryd.f13 8) A.tmps) = true := wanted_free hg
    refine step_call (f := 29) (args := #[.int .i64 l]) hk hw ?_ ?_
    · unfold execOp
      simp only [ho1]
      have xf : ∀ f, A.eval (.func f) = .func (.func f) #[] #[] := fun _ => rfl
      generalize A.eval = ρ at x26 xf ⊢
      simp [go_sem, xf, x26]
    · refine (rnum_any l w).mono ?_
      rintro en w' ⟨rfl, hb'⟩
      exact ⟨_, rfl, rfl, ⟨⟨hC.1.trans (Below.lower hb' hC.1.size), Nat.le_trans hC.2.1 hb'.size, (hb'.block _ (lt_of_block hC.2.2)).trans hC.2.2⟩, hM.under hb'⟩, fun j u _ _ _ _ h => rbr_keep bx B6 va vc acc cells f l t w0 w1 j u w _ hb' h⟩
  | 8, _ =>
    have ho1 := opIs ho (p := .buildSlice 40 2 #[(0, (.tmp 24)), (1, (.tmp 27))]) (by kernel_rfl)
    have hg := guardIs ho (p := none) (by kernel_rfl)
    intro e A w hA hC hp hup K hk
    have hM := hC.2 (hup 11 (by kernel_rfl))
    replace hC := hC.1
    replace hk : Next (regOf Tryd.f13 8) (fun w => (fun w => Below w0.heap.size w0 w ∧ w1.heap.size ≤ w.heap.size ∧ w.heap[B6]? = some (.cells #[.int .i64 f, .int .i64 l, .string t] 32 (0, 0))) w ∧ (fun w => Making bx acc va vc cells w) w) (rbrT bx B6 va vc acc cells f l t w0 w1) rbrD 8 e A w o.dst K := hk.next fun v w h => ⟨h.1, fun _ => h.2⟩
    have hCM := And.intro hC hM
    have x24 : A.eval (.tmp 24) = .agg #[.int .i64 1, .int .i64 f, .string ⟨#[]⟩, .slice none 0 0] := op_tmp hA hp 24 4 (by kernel_rfl) (by kernel_rfl) (by kernel_rfl) (hz _ rfl)
    have x27 : A.eval (.tmp 27) = .agg #[.int .i64 1, .int .i64 l, .string ⟨#[]⟩, .slice none 0 0] := op_tmp hA hp 27 7 (by kernel_rfl) (by kernel_rfl) (by kernel_rfl) (hz _ rfl)
    have hw : Region.wanted o (yielded (regOf Tryd.f13 8) A.tmps) = true := wanted_free hg
    refine step_value (v := .slice (some ⟨w.heap.size, 0, none⟩) 2 2) (w' := w.alloc (.cells #[.int .i64 1, .int .i64 f, .string ⟨#[]⟩, .slice none 0 0, .int .i64 1, .int .i64 l, .string ⟨#[]⟩, .slice none 0 0] 42)) hk hw ?_ ?_ ?_ ?_
    · unfold execOp
      simp only [ho1]
      generalize A.eval = ρ at x24 x27 ⊢
      simp [go_sem, x24, x27]
    · exact ⟨w.heap.size, rfl, Nat.lt_of_lt_of_le hB6 hC.2.1, heap_alloc_new w _⟩
    · exact ⟨⟨hC.1.alloc hC.1.size _, by have := hC.2.1; simp; omega, (heap_alloc_old w _ (lt_of_block hC.2.2)).trans hC.2.2⟩, hM.under ((Below.refl _ w).alloc (Nat.le_refl _) _)⟩
    · intro j u _ _ _ _ h
      exact rbr_keep bx B6 va vc acc cells f l t w0 w1 j u w _ ((Below.refl _ w).alloc (Nat.le_refl _) _) h
  | 9, _ =>
    have ho1 := opIs ho (p := .build 42 #[(0, (.const (.int .i64 3))), (3, (.tmp 28))]) (by kernel_rfl)
    have hg := guardIs ho (p := none) (by kernel_rfl)
    intro e A w hA hC hp hup K hk
    have hM := hC.2 (hup 11 (by kernel_rfl))
    replace hC := hC.1
    replace hk : Next (regOf Tryd.f13 8) (fun w => (fun w => Below w0.heap.size w0 w ∧ w1.heap.size ≤ w.heap.size ∧ w.heap[B6]? = some (.cells #[.int .i64 f, .int .i64 l, .string t] 32 (0, 0))) w ∧ (fun w => Making bx acc va vc cells w) w) (rbrT bx B6 va vc acc cells f l t w0 w1) rbrD 9 e A w o.dst K := hk.next fun v w h => ⟨h.1, fun _ => h.2⟩
    have hCM := And.intro hC hM
    have x28 := op_tmp hA hp 28 8 (by kernel_rfl) (by kernel_rfl) (by kernel_rfl) (hz _ rfl)
    have hw : Region.wanted o (yielded (regOf Tryd.f13 8) A.tmps) = true := wanted_free hg
    obtain ⟨b, x28, h1, h2⟩ := x28
    refine step_pure (v := .agg #[.int .i64 3, .int .i64 0, .string ⟨#[]⟩, .slice (some ⟨b, 0, none⟩) 2 2]) hk hCM hw ?_ ⟨b, rfl, h1, h2⟩
    unfold execOp
    simp only [ho1]
    have xc : ∀ v, A.eval (.const v) = v := fun _ => rfl
    generalize A.eval = ρ at x28 xc ⊢
    simp [go_sem, x28, xc]
  | 10, _ =>
    have ho1 := opIs ho (p := .buildSlice 40 1 #[(0, (.tmp 29))]) (by kernel_rfl)
    have hg := guardIs ho (p := none) (by kernel_rfl)
    intro e A w hA hC hp hup K hk
    have hM := hC.2 (hup 11 (by kernel_rfl))
    replace hC := hC.1
    replace hk : Next (regOf Tryd.f13 8) (fun w => (fun w => Below w0.heap.size w0 w ∧ w1.heap.size ≤ w.heap.size ∧ w.heap[B6]? = some (.cells #[.int .i64 f, .int .i64 l, .string t] 32 (0, 0))) w ∧ (fun w => Making bx acc va vc cells w) w) (rbrT bx B6 va vc acc cells f l t w0 w1) rbrD 10 e A w o.dst K := hk.next fun v w h => ⟨h.1, fun _ => h.2⟩
    have hCM := And.intro hC hM
    have x29 := op_tmp hA hp 29 9 (by kernel_rfl) (by kernel_rfl) (by kernel_rfl) (hz _ rfl)
    have hw : Region.wanted o (yielded (regOf Tryd.f13 8) A.tmps) = true := wanted_free hg
    obtain ⟨b, x29, h1, h2⟩ := x29
    refine step_value (v := .slice (some ⟨w.heap.size, 0, none⟩) 1 1) (w' := w.alloc (.cells #[.int .i64 3, .int .i64 0, .string ⟨#[]⟩, .slice (some ⟨b, 0, none⟩) 2 2] 42)) hk hw ?_ ?_ ?_ ?_
    · unfold execOp
      simp only [ho1]
      generalize A.eval = ρ at x29 ⊢
      simp [go_sem, x29]
    · exact ⟨b, w.heap.size, rfl, ⟨h1, (heap_alloc_old w _ (lt_of_block h2)).trans h2⟩, heap_alloc_new w _⟩
    · exact ⟨⟨hC.1.alloc hC.1.size _, by have := hC.2.1; simp; omega, (heap_alloc_old w _ (lt_of_block hC.2.2)).trans hC.2.2⟩, hM.under ((Below.refl _ w).alloc (Nat.le_refl _) _)⟩
    · intro j u _ _ _ _ h
      exact rbr_keep bx B6 va vc acc cells f l t w0 w1 j u w _ ((Below.refl _ w).alloc (Nat.le_refl _) _) h
  | 11, _ =>
    have ho1 := opIs ho (p := .call { callee := (.builtin .append), args := #[(.tmp 21), (.tmp 30)], argTypes := #[40, 40] }) (by kernel_rfl)
    have hg := guardIs ho (p := none) (by kernel_rfl)
    intro e A w hA hC hp hup K hk
    have hM := hC.2 (hup 11 (by kernel_rfl))
    have x21 : A.eval (.tmp 21) = .slice va acc.length vc := op_tmp hA hp 21 1 (by kernel_rfl) (by kernel_rfl) (by kernel_rfl) (hz _ rfl)
    have x30 := op_tmp hA hp 30 10 (by kernel_rfl) (by kernel_rfl) (by kernel_rfl) (hz _ rfl)
    have hw : Region.wanted o (yielded (regOf Tryd.f13 8) A.tmps) = true := wanted_free hg
    obtain ⟨b, c, x30, ⟨h1, h2⟩, h3⟩ := x30
    have hat : V.At w (fun p => B6 + 1 ≤ p ∧ p < w.heap.size) (.mk 3 0 ⟨#[]⟩ [.mk 1 f ⟨#[]⟩ [], .mk 1 l ⟨#[]⟩ []]) [.int .i64 3, .int .i64 0, .string ⟨#[]⟩, .slice (some ⟨b, 0, none⟩) 2 2] := by
      simp only [V.At, VAll]
      refine ⟨some ⟨b, 0, none⟩, 2, rfl, Nat.le_refl _, (fun e => by cases e), ⟨b, 0, [.int .i64 1, .int .i64 f, .string ⟨#[]⟩, .slice none 0 0], rfl, ⟨h1, lt_of_block h2⟩, ⟨none, 0, rfl, Nat.le_refl _, fun _ => rfl, trivial⟩, fun j u hj => ?_⟩, ⟨b, 0, [.int .i64 1, .int .i64 l, .string ⟨#[]⟩, .slice none 0 0], rfl, ⟨h1, lt_of_block h2⟩, ⟨none, 0, rfl, Nat.le_refl _, fun _ => rfl, trivial⟩, fun j u hj => ?_⟩, trivial⟩
      · match j, hj with
        | 0, hj => exact (Lib.cell_of_heap h2 _).trans hj
        | 1, hj => exact (Lib.cell_of_heap h2 _).trans hj
        | 2, hj => exact (Lib.cell_of_heap h2 _).trans hj
        | 3, hj => exact (Lib.cell_of_heap h2 _).trans hj
      · match j, hj with
        | 0, hj => exact (Lib.cell_of_heap h2 _).trans hj
        | 1, hj => exact (Lib.cell_of_heap h2 _).trans hj
        | 2, hj => exact (Lib.cell_of_heap h2 _).trans hj
        | 3, hj => exact (Lib.cell_of_heap h2 _).trans hj
    have hlt6 := lt_of_block hC.1.2.2
    obtain ⟨a3, c3, cells3, w', hr, hg, hmade⟩ := making_append hM (.mk 3 0 ⟨#[]⟩ [.mk 1 f ⟨#[]⟩ [], .mk 1 l ⟨#[]⟩ []]) _ _ _ _ c (B6 + 1) _ 40 o.type hV h3 hat (by omega) hlt6 (fun k hk => Nat.lt_succ_of_lt (hvl k hk)) hn
    rw [if_pos hw]
    unfold Oper.wp
    rw [show (execOp A.eval o).run Tryd.prog w = .ok (.value (.slice a3 (acc.length + 1) c3)) w' by
      unfold execOp
      simp only [ho1, resolve, invoke, builtin, Sem.run_bind, Sem.run_pure, Result.andThen_ok, List.map_toArray, List.map_cons, List.map_nil, x21, x30, hr]]
    have hown : ∀ p, B6 ≤ p → some p ≠ (Value.slice va acc.length vc).ownBlock := fun p hp e => by have := hvl p e.symm; omega
    refine hk _ _ ⟨a3, c3, cells3, rfl, hmade⟩ ⟨⟨hC.1.1.grown hg hC.1.1.size (fun k e => by have := (hM.own.lt k e).1; omega), Nat.le_trans hC.1.2.1 hg.size, (hg.block _ hlt6 (hown _ (Nat.le_refl _))).trans hC.1.2.2⟩, fun h => by rw [Vals.set_same] at h; cases h⟩ ?_
    intro j u hj hji _ hd h
    match j, h with
    | 0, h => exact h
    | 1, h => exact h
    | 2, h => exact h
    | 3, h => exact h
    | 4, h => exact h
    | 5, h => exact h
    | 6, h => exact h
    | 7, h => exact h
    | 8, h => obtain ⟨b, rfl, h1, h2⟩ := h; exact ⟨b, rfl, h1, (hg.block _ (lt_of_block h2) (hown _ (by omega))).trans h2⟩
    | 9, h => obtain ⟨b, rfl, h1, h2⟩ := h; exact ⟨b, rfl, h1, (hg.block _ (lt_of_block h2) (hown _ (by omega))).trans h2⟩
    | 10, h => exact absurd rfl (hd 11 (by rw [hsz]; decide) rfl).1
    | 11, h => exact absurd rfl hji
    | 12, h => exact h
    | _ + 13, h => trivial
  | 12, _ =>
    have ho1 := opIs ho (p := .fieldAddr 42 (.tmp 4) 3) (by kernel_rfl)
    have hg := guardIs ho (p := none) (by kernel_rfl)
    intro e A w hA hC hp hup K hk
    replace hk : Next (regOf Tryd.f13 8) (fun w => (fun w => Below w0.heap.size w0 w ∧ w1.heap.size ≤ w.heap.size ∧ w.heap[B6]? = some (.cells #[.int .i64 f, .int .i64 l, .string t] 32 (0, 0))) w ∧ (e 11 = none → (fun w => Making bx acc va vc cells w) w)) (rbrT bx B6 va vc acc cells f l t w0 w1) rbrD 12 e A w o.dst K := hk.next fun v w h => ⟨h.1, fun he => h.2 (by rwa [Vals.set_other e v (by decide)] at he)⟩
    have hCM := hC
    have x4 : A.eval (.tmp 4) = .pointer (some ⟨bx, 0, none⟩) := filled_base hA (by kernel_rfl) b4
    have hw : Region.wanted o (yielded (regOf Tryd.f13 8) A.tmps) = true := wanted_free hg
    refine step_pure (v := .pointer (some ⟨bx, 3, none⟩)) hk hCM hw ?_ rfl
    unfold execOp
    simp only [ho1]
    generalize A.eval = ρ at x4 ⊢
    simp [go_sem, x4]
  | _ + 13, h => exact absurd h (by omega)
end Go.Proofs.YtdlnabjledhiiaaDoor

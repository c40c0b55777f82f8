/-
  The walk of the closure of code.Put at a text; as long as what is written has at most 2^47 bytes. (Written by wip/mkput.py.)
-/
import Derived.Test.YtdlnabjledhiiaaDoorPvA
import Derived.Test.YtdlnabjledhiiaaDoorRegL
namespace Go.Proofs.YtdlnabjledhiiaaDoor
open Go.RowKit
set_option linter.unusedVariables false

/-- What each operation of the region yields. -/
def ptextT (B B0 b : Nat) (s : ByteArray) (w1 : World) : Nat → Value → World → Prop
  | 0, v, w => v = .pointer (some ⟨B0, 2, none⟩)
  | 1, v, w => v = .string s
  | 2, v, w => v = .int .i64 (s.size : Int)
  | 3, v, w => v = .string ⟨(Lib.itoa (s.size : Int)).toArray⟩
  | 4, v, w => v = .string ((⟨(Lib.itoa (s.size : Int)).toArray⟩ : ByteArray) ++ (⟨#[58]⟩ : ByteArray))
  | 5, v, w => v = .pointer (some ⟨B0, 2, none⟩)
  | 6, v, w => v = .string s
  | 7, v, w => v = .string ((⟨(Lib.itoa (s.size : Int)).toArray⟩ : ByteArray) ++ (⟨#[58]⟩ : ByteArray) ++ s)
  | _, _, _ => True
def ptextD : Nat → List Nat
  | _ => []
theorem ptext_keep (B B0 b : Nat) (s : ByteArray) (w1 : World) : ∀ (j : Nat) (u : Value) (w w' : World), Below w.heap.size w w' → (ptextT B B0 b s w1) j u w → (ptextT B B0 b s w1) j u w'
  | 0, u, w, w', hb, h => h
  | 1, u, w, w', hb, h => h
  | 2, u, w, w', hb, h => h
  | 3, u, w, w', hb, h => h
  | 4, u, w, w', hb, h => h
  | 5, u, w, w', hb, h => h
  | 6, u, w, w', hb, h => h
  | 7, u, w, w', hb, h => h
  | _ + 8, u, w, w', hb, h => trivial
theorem ptext_free (B B0 b : Nat) (s : ByteArray) (w1 : World) : ∀ (j : Nat) (u : Value) (w w' : World), [].contains j = false → (ptextT B B0 b s w1) j u w → (ptextT B B0 b s w1) j u w'
  | 0, u, w, w', hb, h => h
  | 1, u, w, w', hb, h => h
  | 2, u, w, w', hb, h => h
  | 3, u, w, w', hb, h => h
  | 4, u, w, w', hb, h => h
  | 5, u, w, w', hb, h => h
  | 6, u, w, w', hb, h => h
  | 7, u, w, w', hb, h => h
  | _ + 8, u, w, w', hb, h => trivial
set_option maxHeartbeats 4000000 in
theorem ptext_steps (B B0 b : Nat) (s : ByteArray) (w1 : World) (hcell : w1.cell? ⟨B0, 2, none⟩ = some (.string s)) (h0 : B0 < w1.heap.size) (htab : Tab B w1) (hB : B ≤ w1.heap.size) (hil : (Lib.itoa (s.size : Int)).length + (s.size + 1) ≤ 140737488355328) {a : Act} (hs : a.tmps.size = 40) (b3 : a.eval (.tmp 3) = .pointer (some ⟨B0, 0, none⟩)) (b1 : a.eval (.tmp 1) = .pointer (some ⟨b, 0, none⟩)) : ∀ i o, i < 8 → (regOf Tryd.f36 12)[i]? = some o → StepOk Tryd.prog (regOf Tryd.f36 12) a (fun w => Below w1.heap.size w1 w) (ptextT B B0 b s w1) ptextD i o := by
  have hz : ∀ t, Nat.blt t 40 = true → Nat.blt t a.tmps.size = true := fun t h => by rw [hs]; exact h
  have hsz : (regOf Tryd.f36 12).size = 9 := by kernel_rfl
  intro i o hii ho
  match i, hii with
  | 0, _ =>
    have ho1 := opIs ho (p := .fieldAddr 42 (.tmp 3) 2) (by kernel_rfl)
    have hg := guardIs ho (p := none) (by kernel_rfl)
    intro e A w hA hC hp K hk
    have x3 : A.eval (.tmp 3) = .pointer (some ⟨B0, 0, none⟩) := filled_base hA (by kernel_rfl) b3
    have hw : Region.wanted o (yielded (regOf Tryd.f36 12) A.tmps) = true := wanted_free hg
    refine step_pure (v := .pointer (some ⟨B0, 2, none⟩)) hk hC hw ?_ rfl
    unfold execOp
    simp only [ho1]
    generalize A.eval = ρ at x3 ⊢
    simp [go_sem, x3]
  | 1, _ =>
    have ho1 := opIs ho (p := .load 9 (.tmp 31)) (by kernel_rfl)
    have hg := guardIs ho (p := none) (by kernel_rfl)
    intro e A w hA hC hp K hk
    have x31 : A.eval (.tmp 31) = .pointer (some ⟨B0, 2, none⟩) := op_tmp hA hp 31 0 (by kernel_rfl) (by kernel_rfl) (by kernel_rfl) (hz _ rfl)
    have hw : Region.wanted o (yielded (regOf Tryd.f36 12) A.tmps) = true := wanted_free hg
    refine step_pure (v := .string s) hk hC hw ?_ rfl
    unfold execOp
    simp only [ho1]
    have e1 : w.cell? ⟨B0, 2, none⟩ = some (.string s) := (World.cell?_of_block (hC.block _ h0)).trans hcell
    generalize A.eval = ρ at x31 ⊢
    simp [go_sem, x31, e1]
  | 2, _ =>
    have ho1 := opIs ho (p := .call { callee := (.builtin .len), args := #[(.tmp 32)], argTypes := #[9] }) (by kernel_rfl)
    have hg := guardIs ho (p := none) (by kernel_rfl)
    intro e A w hA hC hp K hk
    have x32 : A.eval (.tmp 32) = .string s := op_tmp hA hp 32 1 (by kernel_rfl) (by kernel_rfl) (by kernel_rfl) (hz _ rfl)
    have hw : Region.wanted o (yielded (regOf Tryd.f36 12) A.tmps) = true := wanted_free hg
    refine step_pure (v := .int .i64 (s.size : Int)) hk hC hw ?_ rfl
    unfold execOp
    simp only [ho1]
    generalize A.eval = ρ at x32 ⊢
    simp [go_sem, x32]
  | 3, _ =>
    have ho1 := opIs ho (p := .call { callee := (.value (.func 39)), args := #[(.tmp 33)], argTypes := #[3] }) (by kernel_rfl)
    have hg := guardIs ho (p := none) (by kernel_rfl)
    intro e A w hA hC hp K hk
    have x33 : A.eval (.tmp 33) = .int .i64 (s.size : Int) := op_tmp hA hp 33 2 (by kernel_rfl) (by kernel_rfl) (by kernel_rfl) (hz _ rfl)
    have hw : Region.wanted o (yielded (regOf Tryd.f36 12) A.tmps) = true := wanted_free hg
    refine step_call (f := 39) (args := #[.int .i64 (s.size : Int)]) hk hw ?_ ?_
    · unfold execOp
      simp only [ho1]
      have xf : ∀ f, A.eval (.func f) = .func (.func f) #[] #[] := fun _ => rfl
      generalize A.eval = ρ at x33 xf ⊢
      simp [go_sem, xf, x33]
    · refine (itoa_any _ (by omega) (by omega) B _ (htab.on (Below.lower hC hB))).mono ?_
      rintro en w' ⟨rfl, hb'⟩
      exact ⟨_, rfl, rfl, hC.trans (Below.lower hb' hC.size), fun j u _ _ _ _ h => ptext_keep B B0 b s w1 j u w _ hb' h⟩
  | 4, _ =>
    have ho1 := opIs ho (p := .binOp .add 9 (.tmp 34) (.const (.string ⟨#[58]⟩)) 9) (by kernel_rfl)
    have hg := guardIs ho (p := none) (by kernel_rfl)
    intro e A w hA hC hp K hk
    have x34 : A.eval (.tmp 34) = .string ⟨(Lib.itoa (s.size : Int)).toArray⟩ := op_tmp hA hp 34 3 (by kernel_rfl) (by kernel_rfl) (by kernel_rfl) (hz _ rfl)
    have hw : Region.wanted o (yielded (regOf Tryd.f36 12) A.tmps) = true := wanted_free hg
    refine step_pure (v := .string ((⟨(Lib.itoa (s.size : Int)).toArray⟩ : ByteArray) ++ (⟨#[58]⟩ : ByteArray))) hk hC hw ?_ rfl
    unfold execOp
    simp only [ho1]
    have xc : ∀ v, A.eval (.const v) = v := fun _ => rfl
    have e1 : (Lib.itoa (s.size : Int)).length ≤ 9223372036854775806 := by omega
    generalize A.eval = ρ at x34 xc ⊢
    simp [go_sem, x34, xc, e1]
  | 5, _ =>
    have ho1 := opIs ho (p := .fieldAddr 42 (.tmp 3) 2) (by kernel_rfl)
    have hg := guardIs ho (p := none) (by kernel_rfl)
    intro e A w hA hC hp K hk
    have x3 : A.eval (.tmp 3) = .pointer (some ⟨B0, 0, none⟩) := filled_base hA (by kernel_rfl) b3
    have hw : Region.wanted o (yielded (regOf Tryd.f36 12) A.tmps) = true := wanted_free hg
    refine step_pure (v := .pointer (some ⟨B0, 2, none⟩)) hk hC hw ?_ rfl
    unfold execOp
    simp only [ho1]
    generalize A.eval = ρ at x3 ⊢
    simp [go_sem, x3]
  | 6, _ =>
    have ho1 := opIs ho (p := .load 9 (.tmp 36)) (by kernel_rfl)
    have hg := guardIs ho (p := none) (by kernel_rfl)
    intro e A w hA hC hp K hk
    have x36 : A.eval (.tmp 36) = .pointer (some ⟨B0, 2, none⟩) := op_tmp hA hp 36 5 (by kernel_rfl) (by kernel_rfl) (by kernel_rfl) (hz _ rfl)
    have hw : Region.wanted o (yielded (regOf Tryd.f36 12) A.tmps) = true := wanted_free hg
    refine step_pure (v := .string s) hk hC hw ?_ rfl
    unfold execOp
    simp only [ho1]
    have e1 : w.cell? ⟨B0, 2, none⟩ = some (.string s) := (World.cell?_of_block (hC.block _ h0)).trans hcell
    generalize A.eval = ρ at x36 ⊢
    simp [go_sem, x36, e1]
  | 7, _ =>
    have ho1 := opIs ho (p := .binOp .add 9 (.tmp 35) (.tmp 37) 9) (by kernel_rfl)
    have hg := guardIs ho (p := none) (by kernel_rfl)
    intro e A w hA hC hp K hk
    have x35 : A.eval (.tmp 35) = .string ((⟨(Lib.itoa (s.size : Int)).toArray⟩ : ByteArray) ++ (⟨#[58]⟩ : ByteArray)) := op_tmp hA hp 35 4 (by kernel_rfl) (by kernel_rfl) (by kernel_rfl) (hz _ rfl)
    have x37 : A.eval (.tmp 37) = .string s := op_tmp hA hp 37 6 (by kernel_rfl) (by kernel_rfl) (by kernel_rfl) (hz _ rfl)
    have hw : Region.wanted o (yielded (regOf Tryd.f36 12) A.tmps) = true := wanted_free hg
    refine step_pure (v := .string ((⟨(Lib.itoa (s.size : Int)).toArray⟩ : ByteArray) ++ (⟨#[58]⟩ : ByteArray) ++ s)) hk hC hw ?_ rfl
    unfold execOp
    simp only [ho1]
    have e1 : (Lib.itoa (s.size : Int)).length + 1 + s.size ≤ 9223372036854775807 := by omega
    generalize A.eval = ρ at x35 x37 ⊢
    simp [go_sem, x35, x37, e1]
  | _ + 8, h => exact absurd h (by omega)

set_option maxRecDepth 20000 in
set_option maxHeartbeats 4000000 in
theorem put1_text (B b F : Nat) (bs : List UInt8) (n : Int) (s : ByteArray) (a : Option Addr) (l c : Nat) (w : World) (h : PutIn B b F bs w) (hlen : bs.length + ((Lib.itoa (s.size : Int)).length + (s.size + 1)) ≤ 140737488355328) :
    Calls Tryd.prog 36 #[.agg #[.int .i64 2, .int .i64 n, .string s, .slice a l c], .pointer (some ⟨b, 0, none⟩), .pointer (some ⟨F, 0, none⟩)] w (PutPost B b F (bs ++ (Lib.itoa (s.size : Int) ++ 58 :: s.data.toList)) w) := by
  have HN := Lib.hid (Four.new w 42 (.int .i64 2) (.int .i64 n) (.string s) (.slice a l c))
  have n0 := HN.out.c0
  have n2 := Lib.hid HN.out.c2
  have H1 := Lib.hid (h.alloc (.cells #[.int .i64 2, .int .i64 n, .string s, .slice a l c] 42))
  have HB1 := Lib.hid ((Below.refl B w).alloc h.size (.cells #[.int .i64 2, .int .i64 n, .string s, .slice a l c] 42))
  have hlt : w.heap.size < (w.alloc (.cells #[.int .i64 2, .int .i64 n, .string s, .slice a l c] 42)).heap.size := by simp
  clear h HN
  go_enter Tryd.func36, Tryd.ntmps36
  go_wp2_with fail
  generalize w.alloc (.cells #[.int .i64 2, .int .i64 n, .string s, .slice a l c] 42) = w1 at *
  clear n0
  refine wp_region_last (regOf Tryd.f36 12) [some 31, some 32, some 33, some 34, some 35, some 36, some 37, some 38] 8 (ptextT B w.heap.size b s w1) (fun w' => Below w1.heap.size w1 w') ptextD (by kernel_rfl) (by kernel_rfl) (by kernel_rfl) (by kernel_rfl) (by kernel_rfl) (by kernel_rfl) (by kernel_rfl) ((Below.refl _ _).drew)
    (ptext_steps B w.heap.size b s w1 n2.out hlt H1.out.tab H1.out.size (by omega) (by kernel_rfl) (by kernel_rfl) (by kernel_rfl)) ?_
  intro oL hoL vs w2 hn hCw2 hT KL hKL
  replace hn : vs.length = 8 := hn
  obtain ⟨v0, vs1, rfl, hn1⟩ := len_cons hn
  obtain ⟨v1, vs2, rfl, hn2⟩ := len_cons hn1
  obtain ⟨v2, vs3, rfl, hn3⟩ := len_cons hn2
  obtain ⟨v3, vs4, rfl, hn4⟩ := len_cons hn3
  obtain ⟨v4, vs5, rfl, hn5⟩ := len_cons hn4
  obtain ⟨v5, vs6, rfl, hn6⟩ := len_cons hn5
  obtain ⟨v6, vs7, rfl, hn7⟩ := len_cons hn6
  obtain ⟨v7, vs8, rfl, hn8⟩ := len_cons hn7
  obtain rfl := List.eq_nil_of_length_eq_zero hn8
  clear hn hn1 hn2 hn3 hn4 hn5 hn6 hn7 hn8
  obtain rfl : v0 = .pointer (some ⟨w.heap.size, 2, none⟩) := hT 0 v0 rfl (by kernel_rfl)
  obtain rfl : v1 = .string s := hT 1 v1 rfl (by kernel_rfl)
  obtain rfl : v2 = .int .i64 (s.size : Int) := hT 2 v2 rfl (by kernel_rfl)
  obtain rfl : v3 = .string ⟨(Lib.itoa (s.size : Int)).toArray⟩ := hT 3 v3 rfl (by kernel_rfl)
  obtain rfl : v4 = .string ((⟨(Lib.itoa (s.size : Int)).toArray⟩ : ByteArray) ++ (⟨#[58]⟩ : ByteArray)) := hT 4 v4 rfl (by kernel_rfl)
  obtain rfl : v5 = .pointer (some ⟨w.heap.size, 2, none⟩) := hT 5 v5 rfl (by kernel_rfl)
  obtain rfl : v6 = .string s := hT 6 v6 rfl (by kernel_rfl)
  obtain rfl : v7 = .string ((⟨(Lib.itoa (s.size : Int)).toArray⟩ : ByteArray) ++ (⟨#[58]⟩ : ByteArray) ++ s) := hT 7 v7 rfl (by kernel_rfl)
  clear hT
  have hoL1 := opIs hoL (p := .call { callee := (.value (.func 37)), args := #[(.tmp 1), (.tmp 38)], argTypes := #[61, 9] }) (by kernel_rfl)
  have hgL := guardIs hoL (p := none) (by kernel_rfl)
  have hdL : oL.dst = some 39 := by have := (show ((regOf Tryd.f36 12)[8]?).map (·.dst) = some (some 39) by kernel_rfl); rw [hoL] at this; simpa using this
  rw [if_pos (wanted_free hgL)]
  rw [hdL] at hKL
  simp only [puts, Act.put, List.setIfInBounds_toArray, List.set_cons_succ, List.set_cons_zero] at hKL ⊢

  unfold Oper.wp
  rw [show (execOp _ oL).run Tryd.prog w2 = .ok (.enter 37 #[.pointer (some ⟨b, 0, none⟩), .string (⟨(Lib.itoa (s.size : Int)).toArray⟩ ++ (⟨#[58]⟩ : ByteArray) ++ s)]) w2 by unfold execOp; simp only [hoL1]; simp [go_sem]]
  have H2 := H1.out.under hCw2
  refine (put_write B b F bs _ w2 H2 ?_).mono ?_
  · rw [show ((⟨(Lib.itoa (s.size : Int)).toArray⟩ : ByteArray) ++ (⟨#[58]⟩ : ByteArray) ++ s).size = (Lib.itoa (s.size : Int)).length + 1 + s.size by rw [ByteArray.size_append, ByteArray.size_append]; rfl]; omega
  rintro e w3 ⟨rfl, h3, hb3, -⟩
  dsimp only
  rw [hdL]
  refine hKL _ _ ?_
  have H3 := Lib.hid h3
  have HB3 := Lib.hid ((HB1.out.trans (Below.lower hCw2 H1.out.size)).trans hb3)
  clear h3 hb3 hCw2 hKL
  go_wp2_with fail
  go_end0
  refine ⟨rfl, ?_, HB3.out⟩
  have := H3.out
  simpa using this
end Go.Proofs.YtdlnabjledhiiaaDoor

/-
  The walks of the reference's op and of delta's copies, right: which op may be; new blocks alone are made.
-/
import Derived.Test.YtdlnabjledhiiaaDoorDl
import Derived.WalkSpells
import Derived.WalkLawsBesides
namespace Go.Proofs.YtdlnabjledhiiaaDoor
open Go.RowKit
set_option linter.unusedVariables false

set_option maxHeartbeats 1000000 in
theorem refOp_any (o : DOp) (w : World) (v : Bool) (hv : Hid (v = o.ok)) :
    Calls Tryd.prog 31 #[.agg #[.int .i64 o.f, .int .i64 o.l, .string o.t]] w fun e w' => e = .returned (.bool v) ∧ Below w.heap.size w w' := by
  obtain ⟨f, l, t⟩ := o
  by_cases h0 : t.size = 0
  · have hk : Hid (v = decide (1 ≤ l ∧ l ≤ 131072 ∧ 0 ≤ f ∧ f ≤ 131072)) := Lib.hid (by rw [hv.out]; unfold DOp.ok; rw [if_pos h0])
    obtain rfl := size0 h0
    clear hv h0
    go_enter Tryd.func31, Tryd.ntmps31
    go_wp2
    all_goals
      go_ret
      exact ⟨ret_bool (by rw [hk.out]; first | (rw [decide_eq_true]; omega) | (symm; rw [decide_eq_false_iff_not]; omega) | (rw [decide_eq_decide]; omega)), (Below.refl _ _).alloc (Nat.le_refl _) _⟩
  · have hk : Hid (v = decide (l = 0 ∧ f = 0 ∧ t.size ≤ 131072)) := Lib.hid (by rw [hv.out]; unfold DOp.ok; rw [if_neg h0])
    have e1 := isEmpty_no h0
    have e2 := eqNil_no h0
    clear hv h0
    go_enter Tryd.func31, Tryd.ntmps31
    go_wp2
    all_goals
      go_ret
      exact ⟨ret_bool (by rw [hk.out]; first | (rw [decide_eq_true]; omega) | (symm; rw [decide_eq_false_iff_not]; omega) | (rw [decide_eq_decide]; omega)), (Below.refl _ _).alloc (Nat.le_refl _) _⟩

set_option maxHeartbeats 400000 in
theorem copies_any (f l : Int) (t : ByteArray) (w : World) :
    Calls Tryd.prog 24 #[.agg #[.int .i64 f, .int .i64 l, .string t]] w fun e w' => e = .returned (.bool (decide (0 < l))) ∧ Below w.heap.size w w' := by
  go_enter Tryd.func24, Tryd.ntmps24
  go_wp2
  go_ret
  exact ⟨rfl, (Below.refl _ _).alloc (Nat.le_refl _) _⟩
theorem copies_is (f l : Int) (t : ByteArray) (w : World) (b : Bool) (h : Hid (b = decide (0 < l))) :
    Calls Tryd.prog 24 #[.agg #[.int .i64 f, .int .i64 l, .string t]] w fun e w' => e = .returned (.bool b) ∧ Below w.heap.size w w' := by
  rw [h.out]; exact copies_any f l t w

set_option maxHeartbeats 2000000 in
theorem dright1_any (o : DOp) (w : World) (v : Bool) (hv : Hid (v = o.ok)) :
    Calls Tryd.prog 27 #[.agg #[.int .i64 o.f, .int .i64 o.l, .string o.t]] w fun e w' => e = .returned (.bool v) ∧ Below w.heap.size w w' := by
  obtain ⟨f, l, t⟩ := o
  have hA : Hid (Below w.heap.size w (w.alloc (.cells #[.int .i64 f, .int .i64 l, .string t] 32))) := Lib.hid ((Below.refl _ _).alloc (Nat.le_refl _) _)
  have h00 : (w.alloc (.cells #[.int .i64 f, .int .i64 l, .string t] 32)).cell? ⟨w.heap.size, 0, none⟩ = some (.int .i64 f) := by
    unfold World.cell?; rw [show (w.alloc (.cells #[.int .i64 f, .int .i64 l, .string t] 32)).heap[w.heap.size]? = _ from heap_alloc_new w _]; rfl
  have h01 : (w.alloc (.cells #[.int .i64 f, .int .i64 l, .string t] 32)).cell? ⟨w.heap.size, 1, none⟩ = some (.int .i64 l) := by
    unfold World.cell?; rw [show (w.alloc (.cells #[.int .i64 f, .int .i64 l, .string t] 32)).heap[w.heap.size]? = _ from heap_alloc_new w _]; rfl
  have h02 : (w.alloc (.cells #[.int .i64 f, .int .i64 l, .string t] 32)).cell? ⟨w.heap.size, 2, none⟩ = some (.string t) := by
    unfold World.cell?; rw [show (w.alloc (.cells #[.int .i64 f, .int .i64 l, .string t] 32)).heap[w.heap.size]? = _ from heap_alloc_new w _]; rfl
  have C0 := Lib.hid h00
  have C1 := Lib.hid h01
  have C2 := Lib.hid h02
  clear h00 h01 h02
  have hfin : (t.size = 0 ∧ 0 < l ∧ Hid (v = decide (l ≤ 131072 ∧ 0 ≤ f ∧ f ≤ 131072))) ∨ (t.size = 0 ∧ ¬ 0 < l ∧ Hid (v = false)) ∨ (t.size ≠ 0 ∧ 0 < l ∧ Hid (v = false)) ∨ (t.size ≠ 0 ∧ ¬ 0 < l ∧ Hid (v = decide (l = 0 ∧ f = 0 ∧ t.size ≤ 131072))) := by
    have hv := hv.out
    unfold DOp.ok at hv
    by_cases h0 : t.size = 0
    · rw [if_pos h0] at hv
      by_cases hl : 0 < l
      · exact .inl ⟨h0, hl, Lib.hid (by rw [hv, decide_eq_decide]; dsimp only; omega)⟩
      · exact .inr (.inl ⟨h0, hl, Lib.hid (by rw [hv, decide_eq_false_iff_not]; dsimp only; omega)⟩)
    · rw [if_neg h0] at hv
      by_cases hl : 0 < l
      · exact .inr (.inr (.inl ⟨h0, hl, Lib.hid (by rw [hv, decide_eq_false_iff_not]; dsimp only; omega)⟩))
      · exact .inr (.inr (.inr ⟨h0, hl, Lib.hid hv⟩))
  clear hv
  have hcop := Lib.hid (fun (b : Bool) (h : Hid (b = decide (0 < l))) (W : World) => copies_is f l t W b h)
  rcases hfin with ⟨h0, hl, hk⟩ | ⟨h0, hl, hk⟩ | ⟨h0, hl, hk⟩ | ⟨h0, hl, hk⟩
  · obtain rfl := size0 h0
    have hc := Lib.hid (hcop.out true (Lib.hid (by simp [hl])))
    clear h0 hcop
    go_enter Tryd.func27, Tryd.ntmps27
    go_wp2_with fail
    refine (hc.out _).mono ?_
    rintro e w1 ⟨rfl, hb1⟩
    have g0 := cell_keep hb1 C0.out
    have g1 := cell_keep hb1 C1.out
    have g2 := cell_keep hb1 C2.out
    have HB := Lib.hid (below_then hA.out hb1 hA.out.size)
    clear hb1
    go_wp2_with fail
    all_goals
      go_ret
      exact ⟨ret_bool (by rw [hk.out]; first | (rw [decide_eq_true]; omega) | (symm; rw [decide_eq_false_iff_not]; omega) | (rw [decide_eq_decide]; omega)), HB.out⟩
  · obtain rfl := size0 h0
    have hc := Lib.hid (hcop.out false (Lib.hid (by simp [hl])))
    clear h0 hcop
    go_enter Tryd.func27, Tryd.ntmps27
    go_wp2_with fail
    refine (hc.out _).mono ?_
    rintro e w1 ⟨rfl, hb1⟩
    have g0 := cell_keep hb1 C0.out
    have g1 := cell_keep hb1 C1.out
    have g2 := cell_keep hb1 C2.out
    have HB := Lib.hid (below_then hA.out hb1 hA.out.size)
    clear hb1
    go_wp2_with fail
    all_goals
      go_ret
      exact ⟨ret_bool (by rw [hk.out]), HB.out⟩
  · have e1 := isEmpty_no h0
    have e2 := eqNil_no h0
    have hc := Lib.hid (hcop.out true (Lib.hid (by simp [hl])))
    clear h0 hcop
    go_enter Tryd.func27, Tryd.ntmps27
    go_wp2_with fail
    refine (hc.out _).mono ?_
    rintro e w1 ⟨rfl, hb1⟩
    have g0 := cell_keep hb1 C0.out
    have g1 := cell_keep hb1 C1.out
    have g2 := cell_keep hb1 C2.out
    have HB := Lib.hid (below_then hA.out hb1 hA.out.size)
    clear hb1
    go_wp2_with fail
    all_goals
      go_ret
      exact ⟨ret_bool (by rw [hk.out]), HB.out⟩
  · have e1 := isEmpty_no h0
    have e2 := eqNil_no h0
    have hc := Lib.hid (hcop.out false (Lib.hid (by simp [hl])))
    clear h0 hcop
    go_enter Tryd.func27, Tryd.ntmps27
    go_wp2_with fail
    refine (hc.out _).mono ?_
    rintro e w1 ⟨rfl, hb1⟩
    have g0 := cell_keep hb1 C0.out
    have g1 := cell_keep hb1 C1.out
    have g2 := cell_keep hb1 C2.out
    have HB := Lib.hid (below_then hA.out hb1 hA.out.size)
    clear hb1
    go_wp2_with fail
    all_goals
      go_ret
      exact ⟨ret_bool (by rw [hk.out]; first | (rw [decide_eq_true]; omega) | (symm; rw [decide_eq_false_iff_not]; omega) | (rw [decide_eq_decide]; omega)), HB.out⟩

set_option maxHeartbeats 400000 in
theorem notRight_any (o : DOp) (w : World) (v : Bool) (hv : Hid (v = !o.ok)) :
    Calls Tryd.prog 26 #[.agg #[.int .i64 o.f, .int .i64 o.l, .string o.t]] w fun e w' => e = .returned (.bool v) ∧ Below w.heap.size w w' := by
  have hr := Lib.hid (fun W => dright1_any o W (!v) (Lib.hid (by rw [hv.out]; simp)))
  obtain ⟨f, l, t⟩ := o
  go_enter Tryd.func26, Tryd.ntmps26
  go_wp2_with fail
  refine (hr.out _).mono ?_
  rintro e w1 ⟨rfl, hb1⟩
  have HB := Lib.hid (below_then ((Below.refl _ w).alloc (Nat.le_refl _) (.cells #[.int .i64 f, .int .i64 l, .string t] 32)) hb1 (by simp))
  clear hb1
  go_wp2_with fail
  go_ret
  exact ⟨ret_bool (by simp), HB.out⟩
end Go.Proofs.YtdlnabjledhiiaaDoor

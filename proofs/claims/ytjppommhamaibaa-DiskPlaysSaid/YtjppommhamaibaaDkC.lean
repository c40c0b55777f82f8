/-
  The walks of disk.Right and of the reference's: which disk may be; new blocks alone are made.
-/
import Derived.Test.YtjppommhamaibaaDkB
import Derived.BigQuiet
namespace Go.Proofs.Ytjppommhamaibaa
open Go.RowKit Go.BigFrame
set_option linter.unusedVariables false

theorem cell_new {w : World} {cs : Array Value} {T : TypeId} (i : Nat) {v : Value} (h : cs[i]? = some v) : (w.alloc (.cells cs T)).cell? ⟨w.heap.size, i, none⟩ = some v := by
  have hb : (w.alloc (.cells cs T)).heap[w.heap.size]? = some (.cells cs T (0, 0)) := heap_alloc_new w _
  rw [Lib.cell_of_heap hb i, h]
theorem numsOk_cases (r : Int) (l : List Fl) (lf : Int) (dn : Bool) : (numsOk ⟨r, l, lf, dn⟩ = true ∧ 0 ≤ r ∧ r ≤ 1048576 ∧ l.length ≤ 8 ∧ -1 ≤ lf ∧ lf ≤ 1073741824) ∨ (numsOk ⟨r, l, lf, dn⟩ = false ∧
    (r < 0 ∨ (0 ≤ r ∧ 1048576 < r) ∨ (0 ≤ r ∧ r ≤ 1048576 ∧ 8 < l.length) ∨ (0 ≤ r ∧ r ≤ 1048576 ∧ l.length ≤ 8 ∧ lf < -1) ∨ (0 ≤ r ∧ r ≤ 1048576 ∧ l.length ≤ 8 ∧ -1 ≤ lf ∧ 1073741824 < lf))) := by
  unfold numsOk
  by_cases h0 : 0 ≤ r <;> by_cases h1 : r ≤ 1048576 <;> by_cases h2 : l.length ≤ 8 <;> by_cases h3 : -1 ≤ lf <;> by_cases h4 : lf ≤ 1073741824 <;> simp [h0, h1, h2, h3, h4] <;> omega
theorem rightFs_no {l : List Fl} {k : Nat} (hk : k < l.length) (h : goodAt l k = false) : rightFs l = false := by
  unfold rightFs
  rw [List.all_eq_false]
  exact ⟨k, List.mem_range.2 hk, by rw [h]; decide⟩
theorem rightFs_yes {l : List Fl} (h : ∀ j, j < l.length → goodAt l j = true) : rightFs l = true := by
  unfold rightFs
  rw [List.all_eq_true]
  exact fun j hj => h j (List.mem_range.1 hj)
theorem goodAt_bad {l : List Fl} {k : Nat} (hk : k < l.length) (h : nmOk l[k].nm = false) : goodAt l k = false := by
  rw [goodAt_is l k hk, h, Bool.false_and]
theorem goodAt_first {l : List Fl} (hk : 0 < l.length) (h : nmOk l[0].nm = true) : goodAt l 0 = true := by
  rw [goodAt_is l 0 hk, h]; simp
theorem goodAt_next {l : List Fl} {j : Nat} (hk : j + 1 < l.length) (h : nmOk l[j + 1].nm = true) : goodAt l (j + 1) = ltN (l[j]'(by omega)).nm l[j + 1].nm := by
  rw [goodAt_is l (j + 1) hk, h]; simp
set_option maxHeartbeats 2000000 in
theorem right_bad (a : Option Addr) (n c : Nat) (d : Dk) (w : World) (h : DkAt w a n c d) (hn : numsOk d = false) :
    Calls Try.prog 9 #[d.val a n c] w fun e w' => e = .returned (.bool false) ∧ Below w.heap.size w w' := by
  obtain ⟨r, l, lf, dn⟩ := d
  have hnb := h.nb
  have hsl : flE.Sl w a n l := h.sl
  have hsm : ∀ f ∈ l, f.small := h.small
  have hlen : l.length = n := h.len
  have hnum := numsOk_cases r l lf dn
  rw [hn, hlen] at hnum
  replace hnum := hnum.resolve_left (by simp)
  replace hnum := hnum.2
  unfold Dk.val
  dsimp only
  have hA : Below w.heap.size w (w.alloc (.cells #[.int .i64 r, .slice a n c, .int .i64 lf, .bool dn] 24)) := (Below.refl _ w).alloc (Nat.le_refl _) _
  have D0 : (w.alloc (.cells #[.int .i64 r, .slice a n c, .int .i64 lf, .bool dn] 24)).cell? ⟨w.heap.size, 0, none⟩ = some (.int .i64 r) := cell_new (cs := #[.int .i64 r, .slice a n c, .int .i64 lf, .bool dn]) 0 (v := .int .i64 r) rfl
  have D1 : (w.alloc (.cells #[.int .i64 r, .slice a n c, .int .i64 lf, .bool dn] 24)).cell? ⟨w.heap.size, 1, none⟩ = some (.slice a n c) := cell_new (cs := #[.int .i64 r, .slice a n c, .int .i64 lf, .bool dn]) 1 (v := .slice a n c) rfl
  have D2 : (w.alloc (.cells #[.int .i64 r, .slice a n c, .int .i64 lf, .bool dn] 24)).cell? ⟨w.heap.size, 2, none⟩ = some (.int .i64 lf) := cell_new (cs := #[.int .i64 r, .slice a n c, .int .i64 lf, .bool dn]) 2 (v := .int .i64 lf) rfl
  have D3 : (w.alloc (.cells #[.int .i64 r, .slice a n c, .int .i64 lf, .bool dn] 24)).cell? ⟨w.heap.size, 3, none⟩ = some (.bool dn) := cell_new (cs := #[.int .i64 r, .slice a n c, .int .i64 lf, .bool dn]) 3 (v := .bool dn) rfl
  have HA := Lib.hid hA
  have HD := Lib.hid (And.intro D0 (And.intro D1 (And.intro D2 D3)))
  clear D0 D1 D2 D3 hA
  clear h hsl hsm hn hlen
  rcases hnum with hq | ⟨hq0, hq⟩ | ⟨hq0, hq1, hq⟩ | ⟨hq0, hq1, hq2, hq⟩ | ⟨hq0, hq1, hq2, hq3, hq⟩
  · have b0 : decide (r < 0) = true := by rw [decide_eq_true_eq]; omega
    go_enter Try.func9, Try.ntmps9
    go_wp2_with fail
    obtain ⟨E0, E1, E2, E3⟩ := HD.out
    generalize w.alloc (.cells #[.int .i64 r, .slice a n c, .int .i64 lf, .bool dn] 24) = W0 at E0 E1 E2 E3 HA ⊢
    have p0 := Bel.cell E0
    have p1 := Bel.cell E1
    have p2 := Bel.cell E2
    clear HD E0 E1 E2 E3
    refine wp_region_bel (by kernel_rfl) (by kernel_rfl) ?_
    repeat (go_big_quiet_step (fail))
    refine wpQuiet_nil ?_
    intro _ hw'
    obtain ⟨⟨W2, hW2⟩, rfl⟩ := hw'
    go_wp2_with fail
    go_ret
    exact ⟨rfl, below_then HA.out hW2 HA.out.size⟩
  · have b0 : decide (r < 0) = false := by rw [decide_eq_false_iff_not]; omega
    have b1 : decide (1048576 < r) = true := by rw [decide_eq_true_eq]; omega
    go_enter Try.func9, Try.ntmps9
    go_wp2_with fail
    obtain ⟨E0, E1, E2, E3⟩ := HD.out
    generalize w.alloc (.cells #[.int .i64 r, .slice a n c, .int .i64 lf, .bool dn] 24) = W0 at E0 E1 E2 E3 HA ⊢
    have p0 := Bel.cell E0
    have p1 := Bel.cell E1
    have p2 := Bel.cell E2
    clear HD E0 E1 E2 E3
    refine wp_region_bel (by kernel_rfl) (by kernel_rfl) ?_
    repeat (go_big_quiet_step (fail))
    refine wpQuiet_nil ?_
    intro _ hw'
    obtain ⟨⟨W2, hW2⟩, rfl⟩ := hw'
    go_wp2_with fail
    go_ret
    exact ⟨rfl, below_then HA.out hW2 HA.out.size⟩
  · have b0 : decide (r < 0) = false := by rw [decide_eq_false_iff_not]; omega
    have b1 : decide (1048576 < r) = false := by rw [decide_eq_false_iff_not]; omega
    have b2 : decide (8 < (n : Int)) = true := by rw [decide_eq_true_eq]; omega
    go_enter Try.func9, Try.ntmps9
    go_wp2_with fail
    obtain ⟨E0, E1, E2, E3⟩ := HD.out
    generalize w.alloc (.cells #[.int .i64 r, .slice a n c, .int .i64 lf, .bool dn] 24) = W0 at E0 E1 E2 E3 HA ⊢
    have p0 := Bel.cell E0
    have p1 := Bel.cell E1
    have p2 := Bel.cell E2
    clear HD E0 E1 E2 E3
    refine wp_region_bel (by kernel_rfl) (by kernel_rfl) ?_
    repeat (go_big_quiet_step (fail))
    refine wpQuiet_nil ?_
    intro _ hw'
    obtain ⟨⟨W2, hW2⟩, rfl⟩ := hw'
    go_wp2_with fail
    go_ret
    exact ⟨rfl, below_then HA.out hW2 HA.out.size⟩
  · have b0 : decide (r < 0) = false := by rw [decide_eq_false_iff_not]; omega
    have b1 : decide (1048576 < r) = false := by rw [decide_eq_false_iff_not]; omega
    have b2 : decide (8 < (n : Int)) = false := by rw [decide_eq_false_iff_not]; omega
    have b3 : decide (lf < -1) = true := by rw [decide_eq_true_eq]; omega
    go_enter Try.func9, Try.ntmps9
    go_wp2_with fail
    obtain ⟨E0, E1, E2, E3⟩ := HD.out
    generalize w.alloc (.cells #[.int .i64 r, .slice a n c, .int .i64 lf, .bool dn] 24) = W0 at E0 E1 E2 E3 HA ⊢
    have p0 := Bel.cell E0
    have p1 := Bel.cell E1
    have p2 := Bel.cell E2
    clear HD E0 E1 E2 E3
    refine wp_region_bel (by kernel_rfl) (by kernel_rfl) ?_
    repeat (go_big_quiet_step (fail))
    refine wpQuiet_nil ?_
    intro _ hw'
    obtain ⟨⟨W2, hW2⟩, rfl⟩ := hw'
    go_wp2_with fail
    go_ret
    exact ⟨rfl, below_then HA.out hW2 HA.out.size⟩
  · have b0 : decide (r < 0) = false := by rw [decide_eq_false_iff_not]; omega
    have b1 : decide (1048576 < r) = false := by rw [decide_eq_false_iff_not]; omega
    have b2 : decide (8 < (n : Int)) = false := by rw [decide_eq_false_iff_not]; omega
    have b3 : decide (lf < -1) = false := by rw [decide_eq_false_iff_not]; omega
    have b4 : decide (1073741824 < lf) = true := by rw [decide_eq_true_eq]; omega
    go_enter Try.func9, Try.ntmps9
    go_wp2_with fail
    obtain ⟨E0, E1, E2, E3⟩ := HD.out
    generalize w.alloc (.cells #[.int .i64 r, .slice a n c, .int .i64 lf, .bool dn] 24) = W0 at E0 E1 E2 E3 HA ⊢
    have p0 := Bel.cell E0
    have p1 := Bel.cell E1
    have p2 := Bel.cell E2
    clear HD E0 E1 E2 E3
    refine wp_region_bel (by kernel_rfl) (by kernel_rfl) ?_
    repeat (go_big_quiet_step (fail))
    refine wpQuiet_nil ?_
    intro _ hw'
    obtain ⟨⟨W2, hW2⟩, rfl⟩ := hw'
    go_wp2_with fail
    go_ret
    exact ⟨rfl, below_then HA.out hW2 HA.out.size⟩
set_option maxHeartbeats 2000000 in
theorem refRight_bad (a : Option Addr) (n c : Nat) (d : Dk) (w : World) (h : DkAt w a n c d) (hn : numsOk d = false) :
    Calls Try.prog 14 #[d.val a n c] w fun e w' => e = .returned (.bool false) ∧ Below w.heap.size w w' := by
  obtain ⟨r, l, lf, dn⟩ := d
  have hnb := h.nb
  have hsl : flE.Sl w a n l := h.sl
  have hsm : ∀ f ∈ l, f.small := h.small
  have hlen : l.length = n := h.len
  have hnum := numsOk_cases r l lf dn
  rw [hn, hlen] at hnum
  replace hnum := hnum.resolve_left (by simp)
  replace hnum := hnum.2
  unfold Dk.val
  dsimp only
  have hA : Below w.heap.size w (w.alloc (.cells #[.int .i64 r, .slice a n c, .int .i64 lf, .bool dn] 24)) := (Below.refl _ w).alloc (Nat.le_refl _) _
  have D0 : (w.alloc (.cells #[.int .i64 r, .slice a n c, .int .i64 lf, .bool dn] 24)).cell? ⟨w.heap.size, 0, none⟩ = some (.int .i64 r) := cell_new (cs := #[.int .i64 r, .slice a n c, .int .i64 lf, .bool dn]) 0 (v := .int .i64 r) rfl
  have D1 : (w.alloc (.cells #[.int .i64 r, .slice a n c, .int .i64 lf, .bool dn] 24)).cell? ⟨w.heap.size, 1, none⟩ = some (.slice a n c) := cell_new (cs := #[.int .i64 r, .slice a n c, .int .i64 lf, .bool dn]) 1 (v := .slice a n c) rfl
  have D2 : (w.alloc (.cells #[.int .i64 r, .slice a n c, .int .i64 lf, .bool dn] 24)).cell? ⟨w.heap.size, 2, none⟩ = some (.int .i64 lf) := cell_new (cs := #[.int .i64 r, .slice a n c, .int .i64 lf, .bool dn]) 2 (v := .int .i64 lf) rfl
  have D3 : (w.alloc (.cells #[.int .i64 r, .slice a n c, .int .i64 lf, .bool dn] 24)).cell? ⟨w.heap.size, 3, none⟩ = some (.bool dn) := cell_new (cs := #[.int .i64 r, .slice a n c, .int .i64 lf, .bool dn]) 3 (v := .bool dn) rfl
  have HA := Lib.hid hA
  have HD := Lib.hid (And.intro D0 (And.intro D1 (And.intro D2 D3)))
  clear D0 D1 D2 D3 hA
  clear h hsl hsm hn hlen
  rcases hnum with hq | ⟨hq0, hq⟩ | ⟨hq0, hq1, hq⟩ | ⟨hq0, hq1, hq2, hq⟩ | ⟨hq0, hq1, hq2, hq3, hq⟩
  · have b0 : decide (r < 0) = true := by rw [decide_eq_true_eq]; omega
    go_enter Try.func14, Try.ntmps14
    go_wp2_with fail
    go_ret
    exact ⟨rfl, HA.out⟩
  · have b0 : decide (r < 0) = false := by rw [decide_eq_false_iff_not]; omega
    have b1 : decide (1048576 < r) = true := by rw [decide_eq_true_eq]; omega
    go_enter Try.func14, Try.ntmps14
    go_wp2_with fail
    go_ret
    exact ⟨rfl, HA.out⟩
  · have b0 : decide (r < 0) = false := by rw [decide_eq_false_iff_not]; omega
    have b1 : decide (1048576 < r) = false := by rw [decide_eq_false_iff_not]; omega
    have b2 : decide (8 < (n : Int)) = true := by rw [decide_eq_true_eq]; omega
    go_enter Try.func14, Try.ntmps14
    go_wp2_with fail
    go_ret
    exact ⟨rfl, HA.out⟩
  · have b0 : decide (r < 0) = false := by rw [decide_eq_false_iff_not]; omega
    have b1 : decide (1048576 < r) = false := by rw [decide_eq_false_iff_not]; omega
    have b2 : decide (8 < (n : Int)) = false := by rw [decide_eq_false_iff_not]; omega
    have b3 : decide (lf < -1) = true := by rw [decide_eq_true_eq]; omega
    go_enter Try.func14, Try.ntmps14
    go_wp2_with fail
    go_ret
    exact ⟨rfl, HA.out⟩
  · have b0 : decide (r < 0) = false := by rw [decide_eq_false_iff_not]; omega
    have b1 : decide (1048576 < r) = false := by rw [decide_eq_false_iff_not]; omega
    have b2 : decide (8 < (n : Int)) = false := by rw [decide_eq_false_iff_not]; omega
    have b3 : decide (lf < -1) = false := by rw [decide_eq_false_iff_not]; omega
    have b4 : decide (1073741824 < lf) = true := by rw [decide_eq_true_eq]; omega
    go_enter Try.func14, Try.ntmps14
    go_wp2_with fail
    go_ret
    exact ⟨rfl, HA.out⟩
set_option maxHeartbeats 4000000 in
set_option maxRecDepth 20000 in
theorem right_good (a : Option Addr) (n c : Nat) (d : Dk) (w : World) (h : DkAt w a n c d) (hn : numsOk d = true) (v : Bool) (hv : Hid (v = rightD d)) :
    Calls Try.prog 9 #[d.val a n c] w fun e w' => e = .returned (.bool v) ∧ Below w.heap.size w w' := by
  obtain ⟨r, l, lf, dn⟩ := d
  have hnb := h.nb
  have hsl : flE.Sl w a n l := h.sl
  have hsm : ∀ f ∈ l, f.small := h.small
  have hlen : l.length = n := h.len
  have hnum := numsOk_cases r l lf dn
  rw [hn, hlen] at hnum
  replace hnum := hnum.resolve_right (by simp)
  obtain ⟨-, hq0, hq1, hq2, hq3, hq4⟩ := hnum
  replace hv : v = (decide ((szL l : Int) ≤ r) && rightFs l) := by rw [hv.out]; unfold rightD; rw [hn, Bool.true_and]
  unfold Dk.val
  dsimp only
  have HSL := Lib.hid hsl
  have HSM := Lib.hid hsm
  have HNB := Lib.hid hnb
  have HV := Lib.hid hv
  have HL := Lib.hid hlen
  have hA : Below w.heap.size w (w.alloc (.cells #[.int .i64 r, .slice a n c, .int .i64 lf, .bool dn] 24)) := (Below.refl _ w).alloc (Nat.le_refl _) _
  have D0 : (w.alloc (.cells #[.int .i64 r, .slice a n c, .int .i64 lf, .bool dn] 24)).cell? ⟨w.heap.size, 0, none⟩ = some (.int .i64 r) := cell_new (cs := #[.int .i64 r, .slice a n c, .int .i64 lf, .bool dn]) 0 (v := .int .i64 r) rfl
  have D1 : (w.alloc (.cells #[.int .i64 r, .slice a n c, .int .i64 lf, .bool dn] 24)).cell? ⟨w.heap.size, 1, none⟩ = some (.slice a n c) := cell_new (cs := #[.int .i64 r, .slice a n c, .int .i64 lf, .bool dn]) 1 (v := .slice a n c) rfl
  have D2 : (w.alloc (.cells #[.int .i64 r, .slice a n c, .int .i64 lf, .bool dn] 24)).cell? ⟨w.heap.size, 2, none⟩ = some (.int .i64 lf) := cell_new (cs := #[.int .i64 r, .slice a n c, .int .i64 lf, .bool dn]) 2 (v := .int .i64 lf) rfl
  have D3 : (w.alloc (.cells #[.int .i64 r, .slice a n c, .int .i64 lf, .bool dn] 24)).cell? ⟨w.heap.size, 3, none⟩ = some (.bool dn) := cell_new (cs := #[.int .i64 r, .slice a n c, .int .i64 lf, .bool dn]) 3 (v := .bool dn) rfl
  have HA := Lib.hid hA
  have HD := Lib.hid (And.intro D0 (And.intro D1 (And.intro D2 D3)))
  clear D0 D1 D2 D3 hA
  have b0 : decide (r < 0) = false := by rw [decide_eq_false_iff_not]; omega
  have b1 : decide (1048576 < r) = false := by rw [decide_eq_false_iff_not]; omega
  have b2 : decide (8 < (n : Int)) = false := by rw [decide_eq_false_iff_not]; omega
  have b3 : decide (lf < -1) = false := by rw [decide_eq_false_iff_not]; omega
  have b4 : decide (1073741824 < lf) = false := by rw [decide_eq_false_iff_not]; omega
  have hsz := Lib.hid (fun (p : Bel (w.alloc (.cells #[.int .i64 r, .slice a n c, .int .i64 lf, .bool dn] 24))) => size_any a n c l p.val (hsl.keep (below_then HA.out p.bel HA.out.size)) hnb hsm (szL l) (Lib.hid rfl))
  clear h hsl hsm hn hlen hnb hv hq0 hq1 hq2 hq3 hq4
  by_cases hs : (szL l : Int) ≤ r
  rotate_left
  · have HF := Lib.hid (show false = v by rw [HV.out, decide_eq_false hs, Bool.false_and])
    clear HV
    have b5 : decide (r < (szL l : Int)) = true := by rw [decide_eq_true_eq]; omega
    clear hs
    generalize szL l = z at *
    go_enter Try.func9, Try.ntmps9
    go_wp2_with fail
    obtain ⟨E0, E1, E2, E3⟩ := HD.out
    generalize w.alloc (.cells #[.int .i64 r, .slice a n c, .int .i64 lf, .bool dn] 24) = W0 at HA E0 E1 E2 E3 hsz ⊢
    have p0 := Bel.cell E0
    have p1 := Bel.cell E1
    have p2 := Bel.cell E2
    refine wp_region_bel (by kernel_rfl) (by kernel_rfl) ?_
    repeat (go_big_quiet_step (exact bel_of (hsz.out _)))
    refine wpQuiet_nil ?_
    intro _ hw'
    obtain ⟨⟨W2, hW2⟩, rfl⟩ := hw'
    clear hsz p0 p1 p2
    go_wp2_with fail
    go_ret
    exact ⟨ret_bool HF.out, below_then HA.out hW2 HA.out.size⟩
  · have HF := Lib.hid (show rightFs l = v by rw [HV.out, decide_eq_true hs, Bool.true_and])
    clear HV
    have b5 : decide (r < (szL l : Int)) = false := by rw [decide_eq_false_iff_not]; omega
    clear hs
    generalize szL l = z at *
    go_enter Try.func9, Try.ntmps9
    go_wp2_with fail
    obtain ⟨E0, E1, E2, E3⟩ := HD.out
    generalize w.alloc (.cells #[.int .i64 r, .slice a n c, .int .i64 lf, .bool dn] 24) = W0 at HA E0 E1 E2 E3 hsz ⊢
    have p0 := Bel.cell E0
    have p1 := Bel.cell E1
    have p2 := Bel.cell E2
    refine wp_region_bel (by kernel_rfl) (by kernel_rfl) ?_
    repeat (go_big_quiet_step (exact bel_of (hsz.out _)))
    refine wpQuiet_nil ?_
    intro _ hw'
    obtain ⟨⟨W2, hW2⟩, rfl⟩ := hw'
    have HW2 := Lib.hid hW2
    have z1 := cell_keep hW2 E1
    clear hsz p0 p1 p2 hW2 b0 b1 b2 b3 b4 b5
    go_wp2_with fail
    go_loopg [3, 4, 40] n (fun gk v3 v4 i wr => ∃ (k : Nat), k ≤ n ∧ gk = n - k ∧ i = .int .i64 (k : Int) ∧ Hid (Below W0.heap.size W0 wr) ∧ Hid (∀ j, j < k → goodAt l j = true))
    case atStart => exact ⟨0, Nat.zero_le _, rfl, rfl, HW2, Lib.hid (fun j hj => absurd hj (Nat.not_lt_zero _))⟩
    case round =>
      obtain ⟨k, hk, rfl, rfl, hB, hgo⟩ := hrel
      by_cases hlt : k < n
      · have hkd : k < l.length := by rw [HL.out]; exact hlt
        have hW := below_then HA.out hB.out HA.out.size
        obtain ⟨-, b, off, rfl, hcells⟩ := fl_at (HSL.out.keep hW) (by omega)
        obtain ⟨c0, c1, c2⟩ := hcells k hkd
        have x1 := cell_keep hB.out E1
        have hki : (k : Int) < (n : Int) := by omega
        obtain ⟨s0, s1, s2⟩ := HSM.out l[k] (List.getElem_mem hkd)
        have hnmc := Lib.hid (fun (v : Bool) (hv : Hid (v = nmOk l[k].nm)) (W : World) => isName_any l[k].nm (Nat.le_trans s0 (by decide)) W v hv)
        have HB2 := Lib.hid (hB.out.alloc hB.out.size (.cells #[.string l[k].nm, .string l[k].sy, .string l[k].ta] 32))
        clear hW
        cases hnm : nmOk l[k].nm with
        | false =>
          have hno := Lib.hid (rightFs_no hkd (goodAt_bad hkd hnm))
          have hc := Lib.hid (hnmc.out false (Lib.hid hnm.symm))
          clear hnmc hgo hnm hcells E0 E1 E2 E3 hB
          generalize l[k] = o at *
          obtain ⟨o0, o1, o2⟩ := o
          go_wp2_with fail
          go_quiet ((go_at_call 26; exact qsame (hc.out _)))
          go_wp2_with fail
          go_ret
          exact ⟨ret_bool (by rw [← HF.out, hno.out]), below_then HA.out (below_drewN HB2.out _) HA.out.size⟩
        | true =>
          have hc := Lib.hid (hnmc.out true (Lib.hid hnm.symm))
          rcases k with _ | j
          · have hg := goodAt_first hkd hnm
            have hnext : Hid (∀ j, j < 0 + 1 → goodAt l j = true) := Lib.hid fun j hj => by
              obtain rfl : j = 0 := by omega
              exact hg
            clear hnmc hgo hnm hcells E0 E1 E2 E3 hB hg
            generalize l[0] = o at *
            simp only [Nat.zero_mul, Nat.add_zero] at c0 c1 c2
            obtain ⟨o0, o1, o2⟩ := o
            go_wp2_with fail
            go_quiet ((go_at_call 26; exact qsame (hc.out _)))
            go_wp2_with fail
            go_roundg (n - (0 + 1))
            case rel => exact ⟨0 + 1, by omega, rfl, by go_num, Lib.hid (below_drewN HB2.out _), hnext⟩
            case measure => omega
          · obtain ⟨y0, y1, y2⟩ := hcells j (by omega)
            have hg := goodAt_next hkd hnm
            cases hlx : ltN (l[j]'(by omega)).nm l[j + 1].nm with
            | false =>
              have hno := Lib.hid (rightFs_no hkd (hg.trans hlx))
              have hlx2 : Op.bytesLess (l[j]'(by omega)).nm.toList l[j + 1].nm.toList = false := hlx
              clear hnmc hgo hnm hcells E0 E1 E2 E3 hB hg hlx y1 y2
              generalize l[j + 1] = o at *
              generalize (l[j]'(by omega)).nm = x at *
              obtain ⟨o0, o1, o2⟩ := o
              have hj0 : (0 : Int) < (j : Int) + 1 := by omega
              have hj1 : (j : Int) < (n : Int) := by omega
              have hnb := HNB.out
              have hA3 : Below wr.heap.size wr (wr.alloc (.cells #[.string o0, .string o1, .string o2] 32)) := (Below.refl _ wr).alloc (Nat.le_refl _) _
              have f0 : (wr.alloc (.cells #[.string o0, .string o1, .string o2] 32)).cell? ⟨wr.heap.size, 0, none⟩ = some (.string o0) := cell_new (cs := #[.string o0, .string o1, .string o2]) 0 (v := .string o0) rfl
              have f1 := cell_keep hA3 x1
              have f2 := cell_keep hA3 y0
              have HG := Lib.hid (And.intro f0 (And.intro f1 f2))
              clear hA3 f0 f1 f2 y0
              go_wp2_with fail
              obtain ⟨f0, f1, f2⟩ := HG.out
              generalize wr.alloc (.cells #[.string o0, .string o1, .string o2] 32) = W3 at HB2 f0 f1 f2 ⊢
              clear x1 c0 c1 c2 HG
              go_quiet ((go_at_call 26; exact qsame (hc.out _)))
              go_wp2_with fail
              go_ret
              exact ⟨ret_bool (by rw [← HF.out, hno.out]), below_then HA.out (below_drewN HB2.out _) HA.out.size⟩
            | true =>
              have hg := hg.trans hlx
              have hnext : Hid (∀ i, i < j + 1 + 1 → goodAt l i = true) := Lib.hid fun i hi => by
                by_cases hij : i = j + 1
                · subst hij; exact hg
                · exact hgo.out i (by omega)
              have hlx2 : Op.bytesLess (l[j]'(by omega)).nm.toList l[j + 1].nm.toList = true := hlx
              clear hnmc hgo hnm hcells E0 E1 E2 E3 hB hg hlx y1 y2
              generalize l[j + 1] = o at *
              generalize (l[j]'(by omega)).nm = x at *
              obtain ⟨o0, o1, o2⟩ := o
              have hj0 : (0 : Int) < (j : Int) + 1 := by omega
              have hj1 : (j : Int) < (n : Int) := by omega
              have hnb := HNB.out
              have hA3 : Below wr.heap.size wr (wr.alloc (.cells #[.string o0, .string o1, .string o2] 32)) := (Below.refl _ wr).alloc (Nat.le_refl _) _
              have f0 : (wr.alloc (.cells #[.string o0, .string o1, .string o2] 32)).cell? ⟨wr.heap.size, 0, none⟩ = some (.string o0) := cell_new (cs := #[.string o0, .string o1, .string o2]) 0 (v := .string o0) rfl
              have f1 := cell_keep hA3 x1
              have f2 := cell_keep hA3 y0
              have HG := Lib.hid (And.intro f0 (And.intro f1 f2))
              clear hA3 f0 f1 f2 y0
              go_wp2_with fail
              obtain ⟨f0, f1, f2⟩ := HG.out
              generalize wr.alloc (.cells #[.string o0, .string o1, .string o2] 32) = W3 at HB2 f0 f1 f2 ⊢
              clear x1 c0 c1 c2 HG
              go_quiet ((go_at_call 26; exact qsame (hc.out _)))
              go_wp2_with fail
              go_roundg (n - (j + 1 + 1))
              case rel => exact ⟨j + 1 + 1, by omega, rfl, by go_num, Lib.hid (below_drewN HB2.out _), hnext⟩
              case measure => omega
      · have hki : (n : Int) ≤ (k : Int) := by omega
        have hyes := Lib.hid (rightFs_yes (l := l) (fun j hj => hgo.out j (by have := HL.out; omega)))
        go_wp2_with fail
        go_ret
        exact ⟨ret_bool (by rw [← HF.out, hyes.out]), below_then HA.out hB.out HA.out.size⟩
set_option maxHeartbeats 4000000 in
set_option maxRecDepth 20000 in
theorem refRight_good (a : Option Addr) (n c : Nat) (d : Dk) (w : World) (h : DkAt w a n c d) (hn : numsOk d = true) (v : Bool) (hv : Hid (v = rightD d)) :
    Calls Try.prog 14 #[d.val a n c] w fun e w' => e = .returned (.bool v) ∧ Below w.heap.size w w' := by
  obtain ⟨r, l, lf, dn⟩ := d
  have hnb := h.nb
  have hsl : flE.Sl w a n l := h.sl
  have hsm : ∀ f ∈ l, f.small := h.small
  have hlen : l.length = n := h.len
  have hnum := numsOk_cases r l lf dn
  rw [hn, hlen] at hnum
  replace hnum := hnum.resolve_right (by simp)
  obtain ⟨-, hq0, hq1, hq2, hq3, hq4⟩ := hnum
  replace hv : v = (decide ((szL l : Int) ≤ r) && rightFs l) := by rw [hv.out]; unfold rightD; rw [hn, Bool.true_and]
  unfold Dk.val
  dsimp only
  have HSL := Lib.hid hsl
  have HSM := Lib.hid hsm
  have HNB := Lib.hid hnb
  have HV := Lib.hid hv
  have HL := Lib.hid hlen
  have hA : Below w.heap.size w (w.alloc (.cells #[.int .i64 r, .slice a n c, .int .i64 lf, .bool dn] 24)) := (Below.refl _ w).alloc (Nat.le_refl _) _
  have D0 : (w.alloc (.cells #[.int .i64 r, .slice a n c, .int .i64 lf, .bool dn] 24)).cell? ⟨w.heap.size, 0, none⟩ = some (.int .i64 r) := cell_new (cs := #[.int .i64 r, .slice a n c, .int .i64 lf, .bool dn]) 0 (v := .int .i64 r) rfl
  have D1 : (w.alloc (.cells #[.int .i64 r, .slice a n c, .int .i64 lf, .bool dn] 24)).cell? ⟨w.heap.size, 1, none⟩ = some (.slice a n c) := cell_new (cs := #[.int .i64 r, .slice a n c, .int .i64 lf, .bool dn]) 1 (v := .slice a n c) rfl
  have D2 : (w.alloc (.cells #[.int .i64 r, .slice a n c, .int .i64 lf, .bool dn] 24)).cell? ⟨w.heap.size, 2, none⟩ = some (.int .i64 lf) := cell_new (cs := #[.int .i64 r, .slice a n c, .int .i64 lf, .bool dn]) 2 (v := .int .i64 lf) rfl
  have D3 : (w.alloc (.cells #[.int .i64 r, .slice a n c, .int .i64 lf, .bool dn] 24)).cell? ⟨w.heap.size, 3, none⟩ = some (.bool dn) := cell_new (cs := #[.int .i64 r, .slice a n c, .int .i64 lf, .bool dn]) 3 (v := .bool dn) rfl
  have HA := Lib.hid hA
  have HD := Lib.hid (And.intro D0 (And.intro D1 (And.intro D2 D3)))
  clear D0 D1 D2 D3 hA
  have b0 : decide (r < 0) = false := by rw [decide_eq_false_iff_not]; omega
  have b1 : decide (1048576 < r) = false := by rw [decide_eq_false_iff_not]; omega
  have b2 : decide (8 < (n : Int)) = false := by rw [decide_eq_false_iff_not]; omega
  have b3 : decide (lf < -1) = false := by rw [decide_eq_false_iff_not]; omega
  have b4 : decide (1073741824 < lf) = false := by rw [decide_eq_false_iff_not]; omega
  have hsz := Lib.hid (fun (p : Bel (w.alloc (.cells #[.int .i64 r, .slice a n c, .int .i64 lf, .bool dn] 24))) => refSize_any a n c l p.val (hsl.keep (below_then HA.out p.bel HA.out.size)) hnb hsm (szL l) (Lib.hid rfl))
  clear h hsl hsm hn hlen hnb hv hq0 hq1 hq2 hq3 hq4
  go_enter Try.func14, Try.ntmps14
  go_wp2_with fail
  obtain ⟨E0, E1, E2, E3⟩ := HD.out
  generalize w.alloc (.cells #[.int .i64 r, .slice a n c, .int .i64 lf, .bool dn] 24) = W0 at HA E0 E1 E2 E3 hsz ⊢
  have HW0 := Lib.hid (Below.refl W0.heap.size W0)
  go_loopg [3, 4, 32] n (fun gk v3 v4 i wr => ∃ (k : Nat), k ≤ n ∧ gk = n - k ∧ i = .int .i64 (k : Int) ∧ Hid (Below W0.heap.size W0 wr) ∧ Hid (∀ j, j < k → goodAt l j = true))
  case atStart => exact ⟨0, Nat.zero_le _, rfl, rfl, HW0, Lib.hid (fun j hj => absurd hj (Nat.not_lt_zero _))⟩
  case round =>
    obtain ⟨k, hk, rfl, rfl, hB, hgo⟩ := hrel
    by_cases hlt : k < n
    · have hkd : k < l.length := by rw [HL.out]; exact hlt
      have hW := below_then HA.out hB.out HA.out.size
      obtain ⟨-, b, off, rfl, hcells⟩ := fl_at (HSL.out.keep hW) (by omega)
      obtain ⟨c0, c1, c2⟩ := hcells k hkd
      have x1 := cell_keep hB.out E1
      have hki : (k : Int) < (n : Int) := by omega
      obtain ⟨s0, s1, s2⟩ := HSM.out l[k] (List.getElem_mem hkd)
      have hnmc := Lib.hid (fun (v : Bool) (hv : Hid (v = nmOk l[k].nm)) (W : World) => refName_any l[k].nm (Nat.le_trans s0 (by decide)) W v hv)
      have HB2 := Lib.hid (hB.out.alloc hB.out.size (.cells #[.string l[k].nm, .string l[k].sy, .string l[k].ta] 32))
      clear hW
      cases hnm : nmOk l[k].nm with
      | false =>
        have hno := Lib.hid (rightFs_no hkd (goodAt_bad hkd hnm))
        have hc := Lib.hid (hnmc.out false (Lib.hid hnm.symm))
        clear hnmc hgo hnm hcells E0 E1 E2 E3 hB
        generalize l[k] = o at *
        obtain ⟨o0, o1, o2⟩ := o
        go_wp2_with fail
        go_quiet ((go_at_call 18; exact qsame (hc.out _)))
        go_wp2_with fail
        go_ret
        exact ⟨ret_bool (by rw [HV.out, hno.out, Bool.and_false]), below_then HA.out (below_drewN HB2.out _) HA.out.size⟩
      | true =>
        have hc := Lib.hid (hnmc.out true (Lib.hid hnm.symm))
        rcases k with _ | j
        · have hg := goodAt_first hkd hnm
          have hnext : Hid (∀ j, j < 0 + 1 → goodAt l j = true) := Lib.hid fun j hj => by
            obtain rfl : j = 0 := by omega
            exact hg
          clear hnmc hgo hnm hcells E0 E1 E2 E3 hB hg
          generalize l[0] = o at *
          simp only [Nat.zero_mul, Nat.add_zero] at c0 c1 c2
          obtain ⟨o0, o1, o2⟩ := o
          go_wp2_with fail
          go_quiet ((go_at_call 18; exact qsame (hc.out _)))
          go_wp2_with fail
          go_roundg (n - (0 + 1))
          case rel => exact ⟨0 + 1, by omega, rfl, by go_num, Lib.hid (below_drewN HB2.out _), hnext⟩
          case measure => omega
        · obtain ⟨y0, y1, y2⟩ := hcells j (by omega)
          have hg := goodAt_next hkd hnm
          cases hlx : ltN (l[j]'(by omega)).nm l[j + 1].nm with
          | false =>
            have hno := Lib.hid (rightFs_no hkd (hg.trans hlx))
            have hlx2 : Op.bytesLess (l[j]'(by omega)).nm.toList l[j + 1].nm.toList = false := hlx
            clear hnmc hgo hnm hcells E0 E1 E2 E3 hB hg hlx y1 y2
            generalize l[j + 1] = o at *
            generalize (l[j]'(by omega)).nm = x at *
            obtain ⟨o0, o1, o2⟩ := o
            have hj0 : (0 : Int) < (j : Int) + 1 := by omega
            have hj1 : (j : Int) < (n : Int) := by omega
            have hnb := HNB.out
            have hA3 : Below wr.heap.size wr (wr.alloc (.cells #[.string o0, .string o1, .string o2] 32)) := (Below.refl _ wr).alloc (Nat.le_refl _) _
            have f0 : (wr.alloc (.cells #[.string o0, .string o1, .string o2] 32)).cell? ⟨wr.heap.size, 0, none⟩ = some (.string o0) := cell_new (cs := #[.string o0, .string o1, .string o2]) 0 (v := .string o0) rfl
            have f1 := cell_keep hA3 x1
            have f2 := cell_keep hA3 y0
            have HG := Lib.hid (And.intro f0 (And.intro f1 f2))
            clear hA3 f0 f1 f2 y0
            go_wp2_with fail
            obtain ⟨f0, f1, f2⟩ := HG.out
            generalize wr.alloc (.cells #[.string o0, .string o1, .string o2] 32) = W3 at HB2 f0 f1 f2 ⊢
            clear x1 c0 c1 c2 HG
            go_quiet ((go_at_call 18; exact qsame (hc.out _)))
            go_wp2_with fail
            go_ret
            exact ⟨ret_bool (by rw [HV.out, hno.out, Bool.and_false]), below_then HA.out (below_drewN HB2.out _) HA.out.size⟩
          | true =>
            have hg := hg.trans hlx
            have hnext : Hid (∀ i, i < j + 1 + 1 → goodAt l i = true) := Lib.hid fun i hi => by
              by_cases hij : i = j + 1
              · subst hij; exact hg
              · exact hgo.out i (by omega)
            have hlx2 : Op.bytesLess (l[j]'(by omega)).nm.toList l[j + 1].nm.toList = true := hlx
            clear hnmc hgo hnm hcells E0 E1 E2 E3 hB hg hlx y1 y2
            generalize l[j + 1] = o at *
            generalize (l[j]'(by omega)).nm = x at *
            obtain ⟨o0, o1, o2⟩ := o
            have hj0 : (0 : Int) < (j : Int) + 1 := by omega
            have hj1 : (j : Int) < (n : Int) := by omega
            have hnb := HNB.out
            have hA3 : Below wr.heap.size wr (wr.alloc (.cells #[.string o0, .string o1, .string o2] 32)) := (Below.refl _ wr).alloc (Nat.le_refl _) _
            have f0 : (wr.alloc (.cells #[.string o0, .string o1, .string o2] 32)).cell? ⟨wr.heap.size, 0, none⟩ = some (.string o0) := cell_new (cs := #[.string o0, .string o1, .string o2]) 0 (v := .string o0) rfl
            have f1 := cell_keep hA3 x1
            have f2 := cell_keep hA3 y0
            have HG := Lib.hid (And.intro f0 (And.intro f1 f2))
            clear hA3 f0 f1 f2 y0
            go_wp2_with fail
            obtain ⟨f0, f1, f2⟩ := HG.out
            generalize wr.alloc (.cells #[.string o0, .string o1, .string o2] 32) = W3 at HB2 f0 f1 f2 ⊢
            clear x1 c0 c1 c2 HG
            go_quiet ((go_at_call 18; exact qsame (hc.out _)))
            go_wp2_with fail
            go_roundg (n - (j + 1 + 1))
            case rel => exact ⟨j + 1 + 1, by omega, rfl, by go_num, Lib.hid (below_drewN HB2.out _), hnext⟩
            case measure => omega
    · have hki : (n : Int) ≤ (k : Int) := by omega
      have hyes := Lib.hid (rightFs_yes (l := l) (fun j hj => hgo.out j (by have := HL.out; omega)))
      have x0 := cell_keep hB.out E0
      have x1 := cell_keep hB.out E1
      have hW := below_then HA.out hB.out HA.out.size
      have hsz2 := Lib.hid (fun (p : Bel wr) => refSize_any a n c l p.val (HSL.out.keep (below_then hW p.bel hW.size)) HNB.out HSM.out (szL l) (Lib.hid rfl))
      have p0 := Bel.cell x0
      have p1 := Bel.cell x1
      have HV := Lib.hid (show v = decide ((szL l : Int) ≤ r) by rw [HV.out, hyes.out, Bool.and_true])
      have HW := Lib.hid hW
      clear hsz hW hyes hgo hki
      generalize szL l = z at *
      go_wp2_with fail
      refine wp_region_bel (by kernel_rfl) (by kernel_rfl) ?_
      repeat (go_big_quiet_step (exact bel_of (hsz2.out _)))
      refine wpQuiet_nil ?_
      intro _ hw'
      obtain ⟨⟨W2, hW2⟩, rfl⟩ := hw'
      go_wp2_with fail
      go_ret
      exact ⟨ret_bool (by rw [HV.out]), below_then HW.out hW2 HW.out.size⟩
theorem right_any (a : Option Addr) (n c : Nat) (d : Dk) (w : World) (h : DkAt w a n c d) (v : Bool) (hv : Hid (v = rightD d)) :
    Calls Try.prog 9 #[d.val a n c] w fun e w' => e = .returned (.bool v) ∧ Below w.heap.size w w' := by
  cases hn : numsOk d with
  | true => exact right_good a n c d w h hn v hv
  | false =>
    have hf : v = false := by rw [hv.out]; unfold rightD; rw [hn]; rfl
    rw [hf]
    exact right_bad a n c d w h hn
theorem refRight_any (a : Option Addr) (n c : Nat) (d : Dk) (w : World) (h : DkAt w a n c d) (v : Bool) (hv : Hid (v = rightD d)) :
    Calls Try.prog 14 #[d.val a n c] w fun e w' => e = .returned (.bool v) ∧ Below w.heap.size w w' := by
  cases hn : numsOk d with
  | true => exact refRight_good a n c d w h hn v hv
  | false =>
    have hf : v = false := by rw [hv.out]; unfold rightD; rw [hn]; rfl
    rw [hf]
    exact refRight_bad a n c d w h hn
end Go.Proofs.Ytjppommhamaibaa

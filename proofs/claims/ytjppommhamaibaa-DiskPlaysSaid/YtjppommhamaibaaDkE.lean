/-
  The walks of ready, Clone, done's sisters, Read and Cut: new blocks alone are made; the texts within reach.
-/
import Derived.Test.YtjppommhamaibaaDkD
import Derived.Test.YtjppommhamaibaaDkR
namespace Go.Proofs.Ytjppommhamaibaa
open Go.RowKit Go.BigFrame
set_option linter.unusedVariables false

theorem DkAt.right {a : Option Addr} {n c : Nat} {d : Dk} {w : World} (h : DkAt w a n c d) (W : World) (hb : Below w.heap.size w W) (v : Bool) (hv : rightD d = v) :
    Calls Try.prog 9 #[d.val a n c] W fun e w' => e = .returned (.bool v) ∧ Below W.heap.size W w' :=
  right_any a n c d W (h.keep hb) v (Lib.hid hv.symm)
set_option maxHeartbeats 2000000 in
theorem ready_any (a : Option Addr) (n c : Nat) (d : Dk) (an : Option Addr) (nn cn : Nat) (nms : List ByteArray) (w : World) (h : DkAt w a n c d) (hsl : SlAt w an nn (nms.map Value.string)) (hn : nn ≤ 9223372036854775807) (hs : ∀ s ∈ nms, s.size ≤ maxLen)
    (v : Int) (hv : Hid (v = readyD d nms)) :
    Calls Try.prog 27 #[d.val a n c, .slice an nn cn] w fun e w' => e = .returned (.int .i64 v) ∧ Below w.heap.size w w' := by
  have hA : Below w.heap.size w (w.alloc (.cells #[.int .i64 d.room, .slice a n c, .int .i64 d.left, .bool d.down] 24)) := (Below.refl _ w).alloc (Nat.le_refl _) _
  have g3 : (w.alloc (.cells #[.int .i64 d.room, .slice a n c, .int .i64 d.left, .bool d.down] 24)).cell? ⟨w.heap.size, 3, none⟩ = some (.bool d.down) := cell_new (cs := #[.int .i64 d.room, .slice a n c, .int .i64 d.left, .bool d.down]) 3 (v := .bool d.down) rfl
  have H1 := Lib.hid (fun b hb => h.right (w.alloc (.cells #[.int .i64 d.room, .slice a n c, .int .i64 d.left, .bool d.down] 24)) hA b hb)
  have H2 := Lib.hid (fun (W : World) (hb : Below w.heap.size w W) (b : Bool) hbv => badName_any an nn cn nms W (hsl.keep hb) hn hs b hbv)
  have HA := Lib.hid hA
  have HG := Lib.hid g3
  clear h hsl hn hs hA g3
  cases hr : rightD d with
  | false =>
    have hfin : v = 1 := by rw [hv.out]; unfold readyD; rw [if_pos (.inl hr)]
    have hc := Lib.hid (H1.out false hr)
    clear H1 H2 hr hv
    obtain ⟨r, l, lf, dn⟩ := d
    unfold Dk.val
    dsimp only at *
    go_enter Try.func27, Try.ntmps27
    go_wp2_with fail
    refine hc.out.mono ?_
    rintro e w1 ⟨rfl, hb1⟩
    have HB := Lib.hid (below_then HA.out hb1 HA.out.size)
    clear hb1
    go_wp2_with fail
    go_ret
    exact ⟨ret_int hfin.symm, HB.out⟩
  | true =>
    have hc := Lib.hid (H1.out true hr)
    cases hnm : nms.all nmOk with
    | false =>
      have hfin : v = 1 := by rw [hv.out]; unfold readyD; rw [if_pos (.inr hnm)]
      have hc2 := Lib.hid (fun (W : World) (hb : Below w.heap.size w W) => H2.out W hb true (Lib.hid (by rw [hnm]; rfl)))
      clear H1 H2 hr hv hnm
      obtain ⟨r, l, lf, dn⟩ := d
      unfold Dk.val
      dsimp only at *
      go_enter Try.func27, Try.ntmps27
      go_wp2_with fail
      refine hc.out.mono ?_
      rintro e w1 ⟨rfl, hb1⟩
      have HB := Lib.hid (below_then HA.out hb1 HA.out.size)
      clear hb1
      go_wp2_with fail
      refine (hc2.out _ HB.out).mono ?_
      rintro e w2 ⟨rfl, rfl⟩
      go_wp2_with fail
      go_ret
      exact ⟨ret_int hfin.symm, HB.out⟩
    | true =>
      have hc2 := Lib.hid (fun (W : World) (hb : Below w.heap.size w W) => H2.out W hb false (Lib.hid (by rw [hnm]; rfl)))
      have hne : ¬ (rightD d = false ∨ nms.all nmOk = false) := by rw [hr, hnm]; simp
      cases hd : d.down with
      | true =>
        have hfin : v = 132 := by rw [hv.out]; unfold readyD; rw [if_neg hne, if_pos hd]
        clear H1 H2 hr hv hnm hne
        obtain ⟨r, l, lf, dn⟩ := d
        unfold Dk.val
        dsimp only at *
        subst hd
        go_enter Try.func27, Try.ntmps27
        go_wp2_with fail
        refine hc.out.mono ?_
        rintro e w1 ⟨rfl, hb1⟩
        have g := cell_keep hb1 HG.out
        have HB := Lib.hid (below_then HA.out hb1 HA.out.size)
        clear hb1
        go_wp2_with fail
        refine (hc2.out _ HB.out).mono ?_
        rintro e w2 ⟨rfl, rfl⟩
        go_wp2_with fail
        go_ret
        exact ⟨ret_int hfin.symm, HB.out⟩
      | false =>
        have hfin : v = 0 := by rw [hv.out]; unfold readyD; rw [if_neg hne, if_neg (by rw [hd]; simp)]
        clear H1 H2 hr hv hnm hne
        obtain ⟨r, l, lf, dn⟩ := d
        unfold Dk.val
        dsimp only at *
        subst hd
        go_enter Try.func27, Try.ntmps27
        go_wp2_with fail
        refine hc.out.mono ?_
        rintro e w1 ⟨rfl, hb1⟩
        have g := cell_keep hb1 HG.out
        have HB := Lib.hid (below_then HA.out hb1 HA.out.size)
        clear hb1
        go_wp2_with fail
        refine (hc2.out _ HB.out).mono ?_
        rintro e w2 ⟨rfl, rfl⟩
        go_wp2_with fail
        go_ret
        exact ⟨ret_int hfin.symm, HB.out⟩
end Go.Proofs.Ytjppommhamaibaa

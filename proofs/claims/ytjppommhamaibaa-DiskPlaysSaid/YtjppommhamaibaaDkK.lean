/-
  The walk of Sync: what it makes of any disk; new blocks alone are made; the texts within reach.
-/
import Derived.Test.YtjppommhamaibaaDkJ
namespace Go.Proofs.Ytjppommhamaibaa
open Go.RowKit Go.BigFrame
set_option linter.unusedVariables false

set_option maxHeartbeats 2000000 in
theorem sync_any (a : Option Addr) (n c : Nat) (d : Dk) (nm : ByteArray) (w : World) (h : DkAt w a n c d) (hs : nm.size ≤ maxLen) :
    Calls Try.prog 22 #[d.val a n c, .string nm] w (RetDk w (syncD d nm)) := by
  have hmf : ∀ fn first cap w, (Instr.makeFunc fn first cap).run Try.prog w = .ok (.func fn first cap) w := fun _ _ _ _ => rfl
  have HA := Lib.hid (two_below w d a n c)
  have HB := Lib.hid (two_box w d a n c)
  have HO := Lib.hid (two_out w d a n c)
  have H := Lib.hid h
  have hnb := h.nb
  obtain ⟨r0, hr0⟩ : ∃ r0, r0 = readyD d [nm] := ⟨_, rfl⟩
  have hr := Lib.hid (ready_one a n c d nm w _ h (two_below w d a n c) hs (w.heap.size + 2) (by unfold twoW; simp) r0 (Lib.hid hr0))
  obtain ⟨k0, hk0⟩ : ∃ k0, k0 = atL d.files nm := ⟨_, rfl⟩
  have hf := Lib.hid (fun (W : World) (hb : Below w.heap.size w W) => find_any a n c d.files nm W (h.sl.keep hb) hnb k0 (Lib.hid hk0))
  have hright := sync_right (d := d) (nm := nm)
  obtain ⟨r, hre⟩ : ∃ r, r = syncD d nm := ⟨_, rfl⟩
  rw [← hre] at hright ⊢
  have hre2 := hre
  unfold syncD at hre2
  rw [← hr0, ← hk0] at hre2
  clear h
  by_cases hz : r0 = 0
  · subst hz
    rw [if_neg (by simp)] at hre2
    by_cases hk : k0 < 0
    · rw [if_pos hk] at hre2
      clear hr0 hk0 hre hright
      subst hre2
      unfold twoW at *
      obtain ⟨rm, l, lf, dn⟩ := d
      unfold Dk.val at *
      dsimp only at *
      go_enter Try.func22, Try.ntmps22
      go_wp2_with fail
      refine hr.out.mono ?_
      rintro e w1 ⟨rfl, hb1⟩
      have HB1 := Lib.hid (below_then HA.out hb1 HA.out.size)
      have hB1 := HB.out.keep hb1
      have o1 := Four.keep HO.out hb1
      have q0 := hB1.c0; have q1 := hB1.c1; have q2 := hB1.c2; have q3 := hB1.c3
      have O1 := Lib.hid o1
      have P1 := Lib.hid hB1
      have hz1 : w.heap.size + 1 < w1.heap.size := by have := hb1.size; simp at this; omega
      clear hB1 o1 hb1
      go_wp2_with fail
      refine (hf.out w1 HB1.out).mono ?_
      rintro e w2 ⟨rfl, hb2⟩
      have HB2 := Lib.hid ((below_then HB1.out hb2 HB1.out.size).alloc (below_then HB1.out hb2 HB1.out.size).size (.cells #[.int .i64 k0] 3))
      have o2 := (Four.keep O1.out hb2).alloc (.cells #[.int .i64 k0] 3)
      have e0 := o2.c0; have e1 := o2.c1; have e2 := o2.c2; have e3 := o2.c3
      have g0 := o2.free 0; have g1 := o2.free 1; have g2 := o2.free 2; have g3 := o2.free 3
      clear o2 hb2 q0 q1 q2 q3
      go_wp2_with fail
      refine bodyPost_ret (v := .tuple #[.agg #[.int .i64 0, .slice none 0 0, .int .i64 0, .bool false], .int .i64 60]) ?_ rfl ?_
      · rw [results_cell_tmp rfl]; go_simp
      · exact RetDk.zero4 60 _ HB2.out (by omega)
    · rw [if_neg hk] at hre2
      have hrd := (ready_parts hr0.symm)
      rw [hk0] at hk
      obtain ⟨j, hj, hj1, hj2, hj3⟩ := atL_lt hk
      rw [hj1] at hk0
      subst hk0
      have hln := H.out.len
      have h8 := (rightD_nums hrd.1).2.1
      have hsm := right_small hrd.1 d.files[j] (List.getElem_mem hj)
      have hpl : synced d.files nm = d.files.set j ⟨d.files[j].nm, d.files[j].sy ++ d.files[j].ta, ⟨#[]⟩⟩ := by unfold synced; rw [hj3, withF_set (rightD_fs hrd.1).2 hj (by exact hj2.symm), hj2]
      rw [hre2] at hright
      have hdone := Lib.hid (fun (W : World) (B : Nat) (hb : Below w.heap.size w W) (ho : One W B 3 (.int .i64 (j : Int))) => by
        have := done_any a n c d 37 38 #[.pointer (some ⟨B, 0, none⟩)] #[] _ d.files (fun _ => False) W (H.out.keep hb) (by omega) enters_sync enters_same (hpl ▸ sync_fs d.files j B _ W hj (by omega) ho hsm.2) (same_fs _ _ _) (fun _ h => h.elim) hright
        rw [← hre2] at this
        exact this)
      have hjn : ¬ ((j : Int) < 0) := by omega
      clear hr0 hre hright hre2 hrd hk hj1 hj2 hj3 h8 hsm hpl hln
      unfold twoW at *
      obtain ⟨rm, l, lf, dn⟩ := d
      unfold Dk.val at *
      dsimp only at *
      go_enter Try.func22, Try.ntmps22
      go_wp2_with fail
      refine hr.out.mono ?_
      rintro e w1 ⟨rfl, hb1⟩
      have HB1 := Lib.hid (below_then HA.out hb1 HA.out.size)
      have hB1 := HB.out.keep hb1
      have o1 := Four.keep HO.out hb1
      have q0 := hB1.c0; have q1 := hB1.c1; have q2 := hB1.c2; have q3 := hB1.c3
      have O1 := Lib.hid o1
      have P1 := Lib.hid hB1
      have hz1 : w.heap.size + 1 < w1.heap.size := by have := hb1.size; simp at this; omega
      clear hB1 o1 hb1
      go_wp2_with fail
      refine (hf.out w1 HB1.out).mono ?_
      rintro e w2 ⟨rfl, hb2⟩
      have HB2 := Lib.hid ((below_then HB1.out hb2 HB1.out.size).alloc (below_then HB1.out hb2 HB1.out.size).size (.cells #[.int .i64 (j : Int)] 3))
      have O2 := Lib.hid ((Four.keep O1.out hb2).alloc (.cells #[.int .i64 (j : Int)] 3))
      have p2 := (Four.keep P1.out hb2).alloc (.cells #[.int .i64 (j : Int)] 3)
      have hone := One.new w2 3 (.int .i64 (j : Int))
      have hsz2 : w1.heap.size ≤ w2.heap.size := hb2.size
      clear hb2 q0 q1 q2 q3
      have q0 := p2.c0; have q1 := p2.c1; have q2 := p2.c2; have q3 := p2.c3
      have hc9 := hdone.out _ _ HB2.out hone
      have HC9 := Lib.hid hc9
      clear hc9 hone p2
      go_wp2_with fail
      refine HC9.out.mono ?_
      rintro e w3 ⟨a3, n3, c3, rfl, hbd, hx3⟩
      obtain ⟨⟨rm3, l3, lf3, dn3⟩, x3⟩ := r
      have o2 := hbd.1.four O2.out (fun h => h)
      have HBD := Lib.hid hbd
      have HX3 := Lib.hid hx3
      clear hbd hx3 q0 q1 q2 q3
      have e0 := o2.c0; have e1 := o2.c1; have e2 := o2.c2; have e3 := o2.c3
      have g0 := o2.free 0; have g1 := o2.free 1; have g2 := o2.free 2; have g3 := o2.free 3
      clear o2
      unfold Dk.val
      dsimp only
      go_wp2_with fail
      refine bodyPost_ret (v := .tuple #[.agg #[.int .i64 rm3, .slice a3 n3 c3, .int .i64 lf3, .bool dn3], .int .i64 x3]) ?_ rfl ?_
      · rw [results_cell_tmp rfl]; go_simp
      · exact ret_out (r := (⟨rm3, l3, lf3, dn3⟩, x3)) HB2.out (fun _ h => h.elim) HBD.out HX3.out (by omega) (by simp; omega) _ _ _ _
  · rw [if_pos hz] at hre2
    have hne : (r0 != 0) = true := bne_iff_ne.2 hz
    clear hr0 hk0 hre hright hf hz
    subst hre2
    unfold twoW at *
    obtain ⟨rm, l, lf, dn⟩ := d
    unfold Dk.val at *
    dsimp only at *
    go_enter Try.func22, Try.ntmps22
    go_wp2_with fail
    refine hr.out.mono ?_
    rintro e w1 ⟨rfl, hb1⟩
    have HB1 := Lib.hid (below_then HA.out hb1 HA.out.size)
    have hB1 := HB.out.keep hb1
    have o1 := Four.keep HO.out hb1
    have q0 := hB1.c0; have q1 := hB1.c1; have q2 := hB1.c2; have q3 := hB1.c3
    have O1 := Lib.hid o1
    have P1 := Lib.hid hB1
    have hz1 : w.heap.size + 1 < w1.heap.size := by have := hb1.size; simp at this; omega
    clear hB1 o1 hb1
    have o2 := O1.out
    have e0 := o2.c0; have e1 := o2.c1; have e2 := o2.c2; have e3 := o2.c3
    have g0 := o2.free 0; have g1 := o2.free 1; have g2 := o2.free 2; have g3 := o2.free 3
    clear o2 q0 q1 q2 q3
    go_wp2_with fail
    refine bodyPost_ret (v := .tuple #[.agg #[.int .i64 0, .slice none 0 0, .int .i64 0, .bool false], .int .i64 r0]) ?_ rfl ?_
    · rw [results_cell_tmp rfl]; go_simp
    · exact RetDk.zero4 r0 _ HB1.out (by omega)
end Go.Proofs.Ytjppommhamaibaa

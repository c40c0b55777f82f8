/-
  The walk of Write: what it makes of any disk; new blocks alone are made; the texts within reach.
-/
import Derived.Test.YtjppommhamaibaaDkO
namespace Go.Proofs.Ytjppommhamaibaa
open Go.RowKit Go.BigFrame
set_option linter.unusedVariables false

def threeW (w : World) (d : Dk) (a : Option Addr) (n c : Nat) (nm more : ByteArray) : World := (((w.alloc (.cells #[.int .i64 d.room, .slice a n c, .int .i64 d.left, .bool d.down] 24)).alloc (.cells #[.string nm] 9)).alloc (.cells #[.string more] 9)).alloc (.cells #[.int .i64 0, .slice none 0 0, .int .i64 0, .bool false] 24)
theorem three_size (w : World) (d : Dk) (a : Option Addr) (n c : Nat) (nm more : ByteArray) : (threeW w d a n c nm more).heap.size = w.heap.size + 4 := by unfold threeW; simp
theorem three_below (w : World) (d : Dk) (a : Option Addr) (n c : Nat) (nm more : ByteArray) : Below w.heap.size w (threeW w d a n c nm more) := ((((Below.refl _ w).alloc (Nat.le_refl _) _).alloc (by simp) _).alloc (by simp; omega) _).alloc (by simp; omega) _
theorem three_box (w : World) (d : Dk) (a : Option Addr) (n c : Nat) (nm more : ByteArray) : DkBox (threeW w d a n c nm more) w.heap.size d a n c := (((Four.new w 24 _ _ _ _).alloc _).alloc _).alloc _
theorem three_nm (w : World) (d : Dk) (a : Option Addr) (n c : Nat) (nm more : ByteArray) : One (threeW w d a n c nm more) (w.heap.size + 1) 9 (.string nm) := by
  have h := One.new (w.alloc (.cells #[.int .i64 d.room, .slice a n c, .int .i64 d.left, .bool d.down] 24)) 9 (.string nm)
  rw [World.size_alloc] at h
  exact (h.alloc _).alloc _
theorem three_more (w : World) (d : Dk) (a : Option Addr) (n c : Nat) (nm more : ByteArray) : One (threeW w d a n c nm more) (w.heap.size + 2) 9 (.string more) := by
  have h := One.new ((w.alloc (.cells #[.int .i64 d.room, .slice a n c, .int .i64 d.left, .bool d.down] 24)).alloc (.cells #[.string nm] 9)) 9 (.string more)
  rw [World.size_alloc, World.size_alloc] at h
  exact h.alloc _
theorem three_out (w : World) (d : Dk) (a : Option Addr) (n c : Nat) (nm more : ByteArray) : outBox (threeW w d a n c nm more) (w.heap.size + 3) := by
  have h := Four.new (((w.alloc (.cells #[.int .i64 d.room, .slice a n c, .int .i64 d.left, .bool d.down] 24)).alloc (.cells #[.string nm] 9)).alloc (.cells #[.string more] 9)) 24 (.int .i64 0) (.slice none 0 0) (.int .i64 0) (.bool false)
  rw [World.size_alloc, World.size_alloc, World.size_alloc] at h
  exact h

set_option maxHeartbeats 4000000 in
theorem write_not (a : Option Addr) (n c : Nat) (d : Dk) (nm more : ByteArray) (w : World) (h : DkAt w a n c d) (hs : nm.size ≤ maxLen) (hs2 : more.size ≤ 9223372036854775807) (r0 : Int) (hr0 : r0 = readyD d [nm]) (hz : r0 ≠ 0) :
    Calls Try.prog 21 #[d.val a n c, .string nm, .string more] w (RetDk w (Dk.zero, r0)) := by
  have hmf : ∀ fn first cap w, (Instr.makeFunc fn first cap).run Try.prog w = .ok (.func fn first cap) w := fun _ _ _ _ => rfl
  have HA := Lib.hid (three_below w d a n c nm more)
  have HB := Lib.hid (three_box w d a n c nm more)
  have HO := Lib.hid (three_out w d a n c nm more)
  have HNM := Lib.hid (three_nm w d a n c nm more)
  have HMO := Lib.hid (three_more w d a n c nm more)
  have HZ := Lib.hid (three_size w d a n c nm more)
  have hsm : more.size ≤ 9223372036854775807 := hs2
  have hr := Lib.hid (ready_one a n c d nm w _ h (three_below w d a n c nm more) hs (w.heap.size + 4) (by rw [three_size]) r0 (Lib.hid hr0))
  have hnb := h.nb
  have hcn := h.cn
  have hne : (r0 != 0) = true := bne_iff_ne.2 hz
  clear hr0 hz h
  unfold threeW at *
  obtain ⟨rm, l, lf, dn⟩ := d
  unfold Dk.val at *
  dsimp only at *
  go_enter Try.func21, Try.ntmps21
  go_wp2_with fail
  refine hr.out.mono ?_
  rintro e w1 ⟨rfl, hb1⟩
  have HB1 := Lib.hid (below_then HA.out hb1 HA.out.size)
  have hB1 := HB.out.keep hb1
  have o1 := Four.keep HO.out hb1
  have n1 := One.below HNM.out hb1
  have m1 := One.below HMO.out hb1
  have q0 := hB1.c0; have q1 := hB1.c1; have q2 := hB1.c2; have q3 := hB1.c3
  have qn := n1.cell
  have qm := m1.cell
  have O1 := Lib.hid o1
  have P1 := Lib.hid hB1
  have N1 := Lib.hid n1
  have M1 := Lib.hid m1
  have hz1 : w.heap.size + 3 < w1.heap.size := by have h1 := hb1.size; rw [HZ.out] at h1; omega
  clear hB1 o1 hb1 n1 m1
  have o2 := O1.out
  have e0 := o2.c0; have e1 := o2.c1; have e2 := o2.c2; have e3 := o2.c3
  have g0 := o2.free 0; have g1 := o2.free 1; have g2 := o2.free 2; have g3 := o2.free 3
  clear o2 q0 q1 q2 q3
  go_wp2_with fail
  refine bodyPost_ret (v := .tuple #[.agg #[.int .i64 0, .slice none 0 0, .int .i64 0, .bool false], .int .i64 r0]) ?_ rfl ?_
  · rw [results_cell_tmp rfl]; go_simp
  · exact RetDk.zero4 r0 _ HB1.out (by omega)

set_option maxHeartbeats 4000000 in
theorem write_full8 (a : Option Addr) (n c : Nat) (d : Dk) (nm more : ByteArray) (w : World) (h : DkAt w a n c d) (hs : nm.size ≤ maxLen) (hs2 : more.size ≤ 9223372036854775807) (r0 : Int) (hr0 : r0 = readyD d [nm]) (hz : r0 = 0) (k0 : Int) (hk0 : k0 = atL d.files nm) (sz : Nat) (hszv : sz = szL d.files) (hright : rightD d = true) (h1 : k0 < 0) (h2 : 8 ≤ d.files.length) :
    Calls Try.prog 21 #[d.val a n c, .string nm, .string more] w (RetDk w (Dk.zero, 130)) := by
  have hmf : ∀ fn first cap w, (Instr.makeFunc fn first cap).run Try.prog w = .ok (.func fn first cap) w := fun _ _ _ _ => rfl
  have HA := Lib.hid (three_below w d a n c nm more)
  have HB := Lib.hid (three_box w d a n c nm more)
  have HO := Lib.hid (three_out w d a n c nm more)
  have HNM := Lib.hid (three_nm w d a n c nm more)
  have HMO := Lib.hid (three_more w d a n c nm more)
  have HZ := Lib.hid (three_size w d a n c nm more)
  have hsm : more.size ≤ 9223372036854775807 := hs2
  have hr := Lib.hid (ready_one a n c d nm w _ h (three_below w d a n c nm more) hs (w.heap.size + 4) (by rw [three_size]) r0 (Lib.hid hr0))
  have hnb := h.nb
  have hcn := h.cn
  subst hz
  have hf := Lib.hid (fun (W : World) (hb : Below w.heap.size w W) => find_any a n c d.files nm W (h.sl.keep hb) hnb k0 (Lib.hid hk0))
  have hsz := Lib.hid (fun (W : World) (hb : Below w.heap.size w W) => size_any a n c d.files W (h.sl.keep hb) hnb h.small sz (Lib.hid hszv))
  obtain ⟨⟨hr1, hr2⟩, hn8, -⟩ := rightD_nums hright
  have hn8 : n ≤ 8 := by have := h.len; omega
  have hsz8 : (sz : Int) ≤ 1048576 := by have := rightD_size hright; omega
  have hwz : IntKind.i64.wrap (d.room - (sz : Int)) = d.room - (sz : Int) := by rw [IntKind.wrap_i64]; omega
  have b1 : decide (k0 < 0) = true := decide_eq_true h1
  have h2i : (8 : Int) ≤ (n : Int) := by have := h.len; omega
  clear h2
  clear hr0 hk0 hszv hright h hcn
  unfold threeW at *
  obtain ⟨rm, l, lf, dn⟩ := d
  unfold Dk.val at *
  dsimp only at *
  go_enter Try.func21, Try.ntmps21
  go_wp2_with fail
  refine hr.out.mono ?_
  rintro e w1 ⟨rfl, hb1⟩
  have HB1 := Lib.hid (below_then HA.out hb1 HA.out.size)
  have hB1 := HB.out.keep hb1
  have o1 := Four.keep HO.out hb1
  have n1 := One.below HNM.out hb1
  have m1 := One.below HMO.out hb1
  have q0 := hB1.c0; have q1 := hB1.c1; have q2 := hB1.c2; have q3 := hB1.c3
  have qn := n1.cell
  have qm := m1.cell
  have O1 := Lib.hid o1
  have P1 := Lib.hid hB1
  have N1 := Lib.hid n1
  have M1 := Lib.hid m1
  have hz1 : w.heap.size + 3 < w1.heap.size := by have h1 := hb1.size; rw [HZ.out] at h1; omega
  clear hB1 o1 hb1 n1 m1
  go_wp2_with fail
  refine (hf.out w1 HB1.out).mono ?_
  rintro e w2 ⟨rfl, hb2⟩
  have hb2' := below_then HB1.out hb2 HB1.out.size
  have HB2 := Lib.hid (hb2'.alloc hb2'.size (.cells #[.int .i64 k0] 3))
  have O2 := Lib.hid ((Four.keep O1.out hb2).alloc (.cells #[.int .i64 k0] 3))
  have P2 := Lib.hid ((Four.keep P1.out hb2).alloc (.cells #[.int .i64 k0] 3))
  have N2 := Lib.hid ((One.below N1.out hb2).alloc (.cells #[.int .i64 k0] 3))
  have M2 := Lib.hid ((One.below M1.out hb2).alloc (.cells #[.int .i64 k0] 3))
  have A2 := Lib.hid (One.new w2 3 (.int .i64 k0))
  have hsz2 : w1.heap.size ≤ w2.heap.size := hb2.size
  obtain ⟨A, hA9⟩ : ∃ A, A = w2.heap.size := ⟨_, rfl⟩
  have HA9 := Lib.hid hA9
  clear hb2 q0 q1 q2 q3 qn qm hb2' hA9
  go_wp2_with fail
  have p2 := P2.out
  have E0 := p2.c0; have E1 := p2.c1; have E4 := M2.out.cell; have E5 := A2.out.cell
  have hA2w : w2.heap.size = A := HA9.out.symm
  have HSZ2 : Hid (w.heap.size + 3 < A ∧ A < (w2.alloc (.cells #[.int .i64 k0] 3)).heap.size) := Lib.hid (by simp; omega)
  clear p2
  generalize hW2 : w2.alloc (.cells #[.int .i64 k0] 3) = W2 at *
  rw [hA2w] at *
  clear hW2 hA2w HA9
  have p0 := Bel.cell E0
  have p1 := Bel.cell E1
  have p4 := Bel.cell E4
  have p5 := Bel.cell E5
  have hszc := Lib.hid (fun (p : Bel W2) => hsz.out p.val (below_then HB2.out p.bel HB2.out.size))
  clear E0 E1 E4 E5 hsz
  refine wp_region_bel (by kernel_rfl) (by kernel_rfl) ?_
  repeat (go_big_quiet_step (exact bel_of (hszc.out _)))
  refine wpQuiet_nil ?_
  intro W3 hw'
  obtain ⟨⟨W8, hW3⟩, he⟩ := hw'
  change W3 = W8 at he
  subst he
  clear p0 p1 p4 p5
  have HB3 := Lib.hid (below_then HB2.out hW3 HB2.out.size)
  have o2 := Four.keep O2.out hW3
  have e0 := o2.c0; have e1 := o2.c1; have e2 := o2.c2; have e3 := o2.c3
  have g0 := o2.free 0; have g1 := o2.free 1; have g2 := o2.free 2; have g3 := o2.free 3
  clear o2 hW3
  go_wp2_with fail
  refine bodyPost_ret (v := .tuple #[.agg #[.int .i64 0, .slice none 0 0, .int .i64 0, .bool false], .int .i64 130]) ?_ rfl ?_
  · rw [results_cell_tmp rfl]; go_simp
  · exact RetDk.zero4 130 _ HB3.out (by omega)

set_option maxHeartbeats 4000000 in
theorem write_full (a : Option Addr) (n c : Nat) (d : Dk) (nm more : ByteArray) (w : World) (h : DkAt w a n c d) (hs : nm.size ≤ maxLen) (hs2 : more.size ≤ 9223372036854775807) (r0 : Int) (hr0 : r0 = readyD d [nm]) (hz : r0 = 0) (k0 : Int) (hk0 : k0 = atL d.files nm) (sz : Nat) (hszv : sz = szL d.files) (hright : rightD d = true) (h1 : k0 < 0) (h2 : ¬ 8 ≤ d.files.length) (h3 : d.room - (sz : Int) < (more.size : Int)) :
    Calls Try.prog 21 #[d.val a n c, .string nm, .string more] w (RetDk w (Dk.zero, 130)) := by
  have hmf : ∀ fn first cap w, (Instr.makeFunc fn first cap).run Try.prog w = .ok (.func fn first cap) w := fun _ _ _ _ => rfl
  have HA := Lib.hid (three_below w d a n c nm more)
  have HB := Lib.hid (three_box w d a n c nm more)
  have HO := Lib.hid (three_out w d a n c nm more)
  have HNM := Lib.hid (three_nm w d a n c nm more)
  have HMO := Lib.hid (three_more w d a n c nm more)
  have HZ := Lib.hid (three_size w d a n c nm more)
  have hsm : more.size ≤ 9223372036854775807 := hs2
  have hr := Lib.hid (ready_one a n c d nm w _ h (three_below w d a n c nm more) hs (w.heap.size + 4) (by rw [three_size]) r0 (Lib.hid hr0))
  have hnb := h.nb
  have hcn := h.cn
  subst hz
  have hf := Lib.hid (fun (W : World) (hb : Below w.heap.size w W) => find_any a n c d.files nm W (h.sl.keep hb) hnb k0 (Lib.hid hk0))
  have hsz := Lib.hid (fun (W : World) (hb : Below w.heap.size w W) => size_any a n c d.files W (h.sl.keep hb) hnb h.small sz (Lib.hid hszv))
  obtain ⟨⟨hr1, hr2⟩, hn8, -⟩ := rightD_nums hright
  have hn8 : n ≤ 8 := by have := h.len; omega
  have hsz8 : (sz : Int) ≤ 1048576 := by have := rightD_size hright; omega
  have hwz : IntKind.i64.wrap (d.room - (sz : Int)) = d.room - (sz : Int) := by rw [IntKind.wrap_i64]; omega
  have b1 : decide (k0 < 0) = true := decide_eq_true h1
  have h2i : (n : Int) < (8 : Int) := by have := h.len; omega
  have b2 : decide ((8 : Int) ≤ (n : Int)) = false := decide_eq_false (by omega)
  clear h2
  have b3 : decide (d.room - (sz : Int) < (more.size : Int)) = true := decide_eq_true h3
  clear hr0 hk0 hszv hright h hcn
  unfold threeW at *
  obtain ⟨rm, l, lf, dn⟩ := d
  unfold Dk.val at *
  dsimp only at *
  go_enter Try.func21, Try.ntmps21
  go_wp2_with fail
  refine hr.out.mono ?_
  rintro e w1 ⟨rfl, hb1⟩
  have HB1 := Lib.hid (below_then HA.out hb1 HA.out.size)
  have hB1 := HB.out.keep hb1
  have o1 := Four.keep HO.out hb1
  have n1 := One.below HNM.out hb1
  have m1 := One.below HMO.out hb1
  have q0 := hB1.c0; have q1 := hB1.c1; have q2 := hB1.c2; have q3 := hB1.c3
  have qn := n1.cell
  have qm := m1.cell
  have O1 := Lib.hid o1
  have P1 := Lib.hid hB1
  have N1 := Lib.hid n1
  have M1 := Lib.hid m1
  have hz1 : w.heap.size + 3 < w1.heap.size := by have h1 := hb1.size; rw [HZ.out] at h1; omega
  clear hB1 o1 hb1 n1 m1
  go_wp2_with fail
  refine (hf.out w1 HB1.out).mono ?_
  rintro e w2 ⟨rfl, hb2⟩
  have hb2' := below_then HB1.out hb2 HB1.out.size
  have HB2 := Lib.hid (hb2'.alloc hb2'.size (.cells #[.int .i64 k0] 3))
  have O2 := Lib.hid ((Four.keep O1.out hb2).alloc (.cells #[.int .i64 k0] 3))
  have P2 := Lib.hid ((Four.keep P1.out hb2).alloc (.cells #[.int .i64 k0] 3))
  have N2 := Lib.hid ((One.below N1.out hb2).alloc (.cells #[.int .i64 k0] 3))
  have M2 := Lib.hid ((One.below M1.out hb2).alloc (.cells #[.int .i64 k0] 3))
  have A2 := Lib.hid (One.new w2 3 (.int .i64 k0))
  have hsz2 : w1.heap.size ≤ w2.heap.size := hb2.size
  obtain ⟨A, hA9⟩ : ∃ A, A = w2.heap.size := ⟨_, rfl⟩
  have HA9 := Lib.hid hA9
  clear hb2 q0 q1 q2 q3 qn qm hb2' hA9
  go_wp2_with fail
  have p2 := P2.out
  have E0 := p2.c0; have E1 := p2.c1; have E4 := M2.out.cell; have E5 := A2.out.cell
  have hA2w : w2.heap.size = A := HA9.out.symm
  have HSZ2 : Hid (w.heap.size + 3 < A ∧ A < (w2.alloc (.cells #[.int .i64 k0] 3)).heap.size) := Lib.hid (by simp; omega)
  clear p2
  generalize hW2 : w2.alloc (.cells #[.int .i64 k0] 3) = W2 at *
  rw [hA2w] at *
  clear hW2 hA2w HA9
  have p0 := Bel.cell E0
  have p1 := Bel.cell E1
  have p4 := Bel.cell E4
  have p5 := Bel.cell E5
  have hszc := Lib.hid (fun (p : Bel W2) => hsz.out p.val (below_then HB2.out p.bel HB2.out.size))
  clear E0 E1 E4 E5 hsz
  refine wp_region_bel (by kernel_rfl) (by kernel_rfl) ?_
  repeat (go_big_quiet_step (exact bel_of (hszc.out _)))
  refine wpQuiet_nil ?_
  intro W3 hw'
  obtain ⟨⟨W8, hW3⟩, he⟩ := hw'
  change W3 = W8 at he
  subst he
  clear p0 p1 p4 p5
  have HB3 := Lib.hid (below_then HB2.out hW3 HB2.out.size)
  have o2 := Four.keep O2.out hW3
  have e0 := o2.c0; have e1 := o2.c1; have e2 := o2.c2; have e3 := o2.c3
  have g0 := o2.free 0; have g1 := o2.free 1; have g2 := o2.free 2; have g3 := o2.free 3
  clear o2 hW3
  go_wp2_with fail
  refine bodyPost_ret (v := .tuple #[.agg #[.int .i64 0, .slice none 0 0, .int .i64 0, .bool false], .int .i64 130]) ?_ rfl ?_
  · rw [results_cell_tmp rfl]; go_simp
  · exact RetDk.zero4 130 _ HB3.out (by omega)

set_option maxHeartbeats 4000000 in
theorem write_full2 (a : Option Addr) (n c : Nat) (d : Dk) (nm more : ByteArray) (w : World) (h : DkAt w a n c d) (hs : nm.size ≤ maxLen) (hs2 : more.size ≤ 9223372036854775807) (r0 : Int) (hr0 : r0 = readyD d [nm]) (hz : r0 = 0) (k0 : Int) (hk0 : k0 = atL d.files nm) (sz : Nat) (hszv : sz = szL d.files) (hright : rightD d = true) (h1 : ¬ k0 < 0) (h3 : d.room - (sz : Int) < (more.size : Int)) :
    Calls Try.prog 21 #[d.val a n c, .string nm, .string more] w (RetDk w (Dk.zero, 130)) := by
  have hmf : ∀ fn first cap w, (Instr.makeFunc fn first cap).run Try.prog w = .ok (.func fn first cap) w := fun _ _ _ _ => rfl
  have HA := Lib.hid (three_below w d a n c nm more)
  have HB := Lib.hid (three_box w d a n c nm more)
  have HO := Lib.hid (three_out w d a n c nm more)
  have HNM := Lib.hid (three_nm w d a n c nm more)
  have HMO := Lib.hid (three_more w d a n c nm more)
  have HZ := Lib.hid (three_size w d a n c nm more)
  have hsm : more.size ≤ 9223372036854775807 := hs2
  have hr := Lib.hid (ready_one a n c d nm w _ h (three_below w d a n c nm more) hs (w.heap.size + 4) (by rw [three_size]) r0 (Lib.hid hr0))
  have hnb := h.nb
  have hcn := h.cn
  subst hz
  have hf := Lib.hid (fun (W : World) (hb : Below w.heap.size w W) => find_any a n c d.files nm W (h.sl.keep hb) hnb k0 (Lib.hid hk0))
  have hsz := Lib.hid (fun (W : World) (hb : Below w.heap.size w W) => size_any a n c d.files W (h.sl.keep hb) hnb h.small sz (Lib.hid hszv))
  obtain ⟨⟨hr1, hr2⟩, hn8, -⟩ := rightD_nums hright
  have hn8 : n ≤ 8 := by have := h.len; omega
  have hsz8 : (sz : Int) ≤ 1048576 := by have := rightD_size hright; omega
  have hwz : IntKind.i64.wrap (d.room - (sz : Int)) = d.room - (sz : Int) := by rw [IntKind.wrap_i64]; omega
  have b1 : decide (k0 < 0) = false := decide_eq_false h1
  have b3 : decide (d.room - (sz : Int) < (more.size : Int)) = true := decide_eq_true h3
  clear hr0 hk0 hszv hright h hcn
  unfold threeW at *
  obtain ⟨rm, l, lf, dn⟩ := d
  unfold Dk.val at *
  dsimp only at *
  go_enter Try.func21, Try.ntmps21
  go_wp2_with fail
  refine hr.out.mono ?_
  rintro e w1 ⟨rfl, hb1⟩
  have HB1 := Lib.hid (below_then HA.out hb1 HA.out.size)
  have hB1 := HB.out.keep hb1
  have o1 := Four.keep HO.out hb1
  have n1 := One.below HNM.out hb1
  have m1 := One.below HMO.out hb1
  have q0 := hB1.c0; have q1 := hB1.c1; have q2 := hB1.c2; have q3 := hB1.c3
  have qn := n1.cell
  have qm := m1.cell
  have O1 := Lib.hid o1
  have P1 := Lib.hid hB1
  have N1 := Lib.hid n1
  have M1 := Lib.hid m1
  have hz1 : w.heap.size + 3 < w1.heap.size := by have h1 := hb1.size; rw [HZ.out] at h1; omega
  clear hB1 o1 hb1 n1 m1
  go_wp2_with fail
  refine (hf.out w1 HB1.out).mono ?_
  rintro e w2 ⟨rfl, hb2⟩
  have hb2' := below_then HB1.out hb2 HB1.out.size
  have HB2 := Lib.hid (hb2'.alloc hb2'.size (.cells #[.int .i64 k0] 3))
  have O2 := Lib.hid ((Four.keep O1.out hb2).alloc (.cells #[.int .i64 k0] 3))
  have P2 := Lib.hid ((Four.keep P1.out hb2).alloc (.cells #[.int .i64 k0] 3))
  have N2 := Lib.hid ((One.below N1.out hb2).alloc (.cells #[.int .i64 k0] 3))
  have M2 := Lib.hid ((One.below M1.out hb2).alloc (.cells #[.int .i64 k0] 3))
  have A2 := Lib.hid (One.new w2 3 (.int .i64 k0))
  have hsz2 : w1.heap.size ≤ w2.heap.size := hb2.size
  obtain ⟨A, hA9⟩ : ∃ A, A = w2.heap.size := ⟨_, rfl⟩
  have HA9 := Lib.hid hA9
  clear hb2 q0 q1 q2 q3 qn qm hb2' hA9
  go_wp2_with fail
  have p2 := P2.out
  have E0 := p2.c0; have E1 := p2.c1; have E4 := M2.out.cell; have E5 := A2.out.cell
  have hA2w : w2.heap.size = A := HA9.out.symm
  have HSZ2 : Hid (w.heap.size + 3 < A ∧ A < (w2.alloc (.cells #[.int .i64 k0] 3)).heap.size) := Lib.hid (by simp; omega)
  clear p2
  generalize hW2 : w2.alloc (.cells #[.int .i64 k0] 3) = W2 at *
  rw [hA2w] at *
  clear hW2 hA2w HA9
  have p0 := Bel.cell E0
  have p1 := Bel.cell E1
  have p4 := Bel.cell E4
  have p5 := Bel.cell E5
  have hszc := Lib.hid (fun (p : Bel W2) => hsz.out p.val (below_then HB2.out p.bel HB2.out.size))
  clear E0 E1 E4 E5 hsz
  refine wp_region_bel (by kernel_rfl) (by kernel_rfl) ?_
  repeat (go_big_quiet_step (exact bel_of (hszc.out _)))
  refine wpQuiet_nil ?_
  intro W3 hw'
  obtain ⟨⟨W8, hW3⟩, he⟩ := hw'
  change W3 = W8 at he
  subst he
  clear p0 p1 p4 p5
  have HB3 := Lib.hid (below_then HB2.out hW3 HB2.out.size)
  have o2 := Four.keep O2.out hW3
  have e0 := o2.c0; have e1 := o2.c1; have e2 := o2.c2; have e3 := o2.c3
  have g0 := o2.free 0; have g1 := o2.free 1; have g2 := o2.free 2; have g3 := o2.free 3
  clear o2 hW3
  go_wp2_with fail
  refine bodyPost_ret (v := .tuple #[.agg #[.int .i64 0, .slice none 0 0, .int .i64 0, .bool false], .int .i64 130]) ?_ rfl ?_
  · rw [results_cell_tmp rfl]; go_simp
  · exact RetDk.zero4 130 _ HB3.out (by omega)

set_option maxHeartbeats 4000000 in
theorem write_new (a : Option Addr) (n c : Nat) (d : Dk) (nm more : ByteArray) (w : World) (h : DkAt w a n c d) (hs : nm.size ≤ maxLen) (hs2 : more.size ≤ 9223372036854775807) (r0 : Int) (hr0 : r0 = readyD d [nm]) (hz : r0 = 0) (k0 : Int) (hk0 : k0 = atL d.files nm) (sz : Nat) (hszv : sz = szL d.files) (hright : rightD d = true) (h1 : k0 < 0) (h2 : ¬ 8 ≤ d.files.length) (h3 : (more.size : Int) ≤ d.room - (sz : Int)) :
    Calls Try.prog 21 #[d.val a n c, .string nm, .string more] w (RetDk w (doneD d (wrote d.files nm more) (wrote d.files nm more))) := by
  have hmf : ∀ fn first cap w, (Instr.makeFunc fn first cap).run Try.prog w = .ok (.func fn first cap) w := fun _ _ _ _ => rfl
  have HA := Lib.hid (three_below w d a n c nm more)
  have HB := Lib.hid (three_box w d a n c nm more)
  have HO := Lib.hid (three_out w d a n c nm more)
  have HNM := Lib.hid (three_nm w d a n c nm more)
  have HMO := Lib.hid (three_more w d a n c nm more)
  have HZ := Lib.hid (three_size w d a n c nm more)
  have hsm : more.size ≤ 9223372036854775807 := hs2
  have hr := Lib.hid (ready_one a n c d nm w _ h (three_below w d a n c nm more) hs (w.heap.size + 4) (by rw [three_size]) r0 (Lib.hid hr0))
  have hnb := h.nb
  have hcn := h.cn
  subst hz
  have hf := Lib.hid (fun (W : World) (hb : Below w.heap.size w W) => find_any a n c d.files nm W (h.sl.keep hb) hnb k0 (Lib.hid hk0))
  have hsz := Lib.hid (fun (W : World) (hb : Below w.heap.size w W) => size_any a n c d.files W (h.sl.keep hb) hnb h.small sz (Lib.hid hszv))
  obtain ⟨⟨hr1, hr2⟩, hn8, -⟩ := rightD_nums hright
  have hn8 : n ≤ 8 := by have := h.len; omega
  have hsz8 : (sz : Int) ≤ 1048576 := by have := rightD_size hright; omega
  have hwz : IntKind.i64.wrap (d.room - (sz : Int)) = d.room - (sz : Int) := by rw [IntKind.wrap_i64]; omega
  have b1 : decide (k0 < 0) = true := decide_eq_true h1
  have h2i : (n : Int) < (8 : Int) := by have := h.len; omega
  have b2 : decide ((8 : Int) ≤ (n : Int)) = false := decide_eq_false (by omega)
  have b3 : decide (d.room - (sz : Int) < (more.size : Int)) = false := decide_eq_false (by omega)
  have H := Lib.hid h
  have hln := h.len
  obtain ⟨r, hre⟩ : ∃ r, r = doneD d (wrote d.files nm more) (wrote d.files nm more) := ⟨_, rfl⟩
  have hrr : rightD (doneD d (wrote d.files nm more) (wrote d.files nm more)).1 = true := by
    have h1 := write_right (d := d) (nm := nm) (more := more)
    unfold writeD at h1
    rw [← hr0, if_neg (by simp), if_neg (by rw [← hk0, ← hszv]; omega)] at h1
    exact h1
  have hdone := Lib.hid (fun (W : World) (Bat Bn Bm : Nat) (hb : Below w.heap.size w W) (o1 : One W Bat 3 (.int .i64 k0)) (o2 : One W Bn 9 (.string nm)) (o3 : One W Bm 9 (.string more)) (n1 : Bat ≠ Bn) (n2 : Bat ≠ Bm) => by
    have hfs : FsFn 34 #[.pointer (some ⟨Bat, 0, none⟩), .pointer (some ⟨Bn, 0, none⟩), .pointer (some ⟨Bm, 0, none⟩)] d.files (wrote d.files nm more) (fun i => i = Bat) W := by
      exact put_new d.files k0 Bat Bn Bm nm more W (rightD_fs hright).2 hk0.symm h1 (by omega) hs2 o1 o2 o3 n1 n2
    have := done_any a n c d 34 34 #[.pointer (some ⟨Bat, 0, none⟩), .pointer (some ⟨Bn, 0, none⟩), .pointer (some ⟨Bm, 0, none⟩)] #[.pointer (some ⟨Bat, 0, none⟩), .pointer (some ⟨Bn, 0, none⟩), .pointer (some ⟨Bm, 0, none⟩)] _ _ (fun i => i = Bat) W (H.out.keep hb) (by omega) enters_write enters_write hfs hfs (fun i hi => by rw [hi]; exact o1.lt) hrr
    rw [← hre] at this
    exact this)
  rw [← hre]
  clear hrr hre hln H
  clear hr0 hk0 hszv hright h hcn
  unfold threeW at *
  obtain ⟨rm, l, lf, dn⟩ := d
  unfold Dk.val at *
  dsimp only at *
  go_enter Try.func21, Try.ntmps21
  go_wp2_with fail
  refine hr.out.mono ?_
  rintro e w1 ⟨rfl, hb1⟩
  have HB1 := Lib.hid (below_then HA.out hb1 HA.out.size)
  have hB1 := HB.out.keep hb1
  have o1 := Four.keep HO.out hb1
  have n1 := One.below HNM.out hb1
  have m1 := One.below HMO.out hb1
  have q0 := hB1.c0; have q1 := hB1.c1; have q2 := hB1.c2; have q3 := hB1.c3
  have qn := n1.cell
  have qm := m1.cell
  have O1 := Lib.hid o1
  have P1 := Lib.hid hB1
  have N1 := Lib.hid n1
  have M1 := Lib.hid m1
  have hz1 : w.heap.size + 3 < w1.heap.size := by have h1 := hb1.size; rw [HZ.out] at h1; omega
  clear hB1 o1 hb1 n1 m1
  go_wp2_with fail
  refine (hf.out w1 HB1.out).mono ?_
  rintro e w2 ⟨rfl, hb2⟩
  have hb2' := below_then HB1.out hb2 HB1.out.size
  have HB2 := Lib.hid (hb2'.alloc hb2'.size (.cells #[.int .i64 k0] 3))
  have O2 := Lib.hid ((Four.keep O1.out hb2).alloc (.cells #[.int .i64 k0] 3))
  have P2 := Lib.hid ((Four.keep P1.out hb2).alloc (.cells #[.int .i64 k0] 3))
  have N2 := Lib.hid ((One.below N1.out hb2).alloc (.cells #[.int .i64 k0] 3))
  have M2 := Lib.hid ((One.below M1.out hb2).alloc (.cells #[.int .i64 k0] 3))
  have A2 := Lib.hid (One.new w2 3 (.int .i64 k0))
  have hsz2 : w1.heap.size ≤ w2.heap.size := hb2.size
  obtain ⟨A, hA9⟩ : ∃ A, A = w2.heap.size := ⟨_, rfl⟩
  have HA9 := Lib.hid hA9
  clear hb2 q0 q1 q2 q3 qn qm hb2' hA9
  go_wp2_with fail
  have p2 := P2.out
  have E0 := p2.c0; have E1 := p2.c1; have E4 := M2.out.cell; have E5 := A2.out.cell
  have hA2w : w2.heap.size = A := HA9.out.symm
  have HSZ2 : Hid (w.heap.size + 3 < A ∧ A < (w2.alloc (.cells #[.int .i64 k0] 3)).heap.size) := Lib.hid (by simp; omega)
  clear p2
  generalize hW2 : w2.alloc (.cells #[.int .i64 k0] 3) = W2 at *
  rw [hA2w] at *
  clear hW2 hA2w HA9
  have p0 := Bel.cell E0
  have p1 := Bel.cell E1
  have p4 := Bel.cell E4
  have p5 := Bel.cell E5
  have hszc := Lib.hid (fun (p : Bel W2) => hsz.out p.val (below_then HB2.out p.bel HB2.out.size))
  clear E0 E1 E4 E5 hsz
  refine wp_region_bel (by kernel_rfl) (by kernel_rfl) ?_
  repeat (go_big_quiet_step (exact bel_of (hszc.out _)))
  refine wpQuiet_nil ?_
  intro W3 hw'
  obtain ⟨⟨W8, hW3⟩, he⟩ := hw'
  change W3 = W8 at he
  subst he
  clear p0 p1 p4 p5
  have HB3 := Lib.hid (below_then HB2.out hW3 HB2.out.size)
  have O3 := Lib.hid (Four.keep O2.out hW3)
  have p3 := Four.keep P2.out hW3
  have hW3s : W2.heap.size ≤ W3.heap.size := hW3.size
  have HC9 := Lib.hid (hdone.out W3 A (w.heap.size + 1) (w.heap.size + 2) HB3.out (One.below A2.out hW3) (One.below N2.out hW3) (One.below M2.out hW3) (by have := HSZ2.out; omega) (by have := HSZ2.out; omega))
  have q0 := p3.c0; have q1 := p3.c1; have q2 := p3.c2; have q3 := p3.c3
  clear p3 hW3 hdone hszc
  go_wp2_with fail
  refine HC9.out.mono ?_
  rintro e w3 ⟨a3, n3, c3, rfl, hbd, hx3⟩
  obtain ⟨⟨rm3, l3, lf3, dn3⟩, x3⟩ := r
  have o2 := hbd.1.four O3.out (by have := HSZ2.out; omega)
  have HBD := Lib.hid hbd
  have HX3 := Lib.hid hx3
  clear hbd hx3 q0 q1 q2 q3
  have e0 := o2.c0; have e1 := o2.c1; have e2 := o2.c2; have e3 := o2.c3
  have g0 := o2.free 0; have g1 := o2.free 1; have g2 := o2.free 2; have g3 := o2.free 3
  clear o2
  unfold Dk.val
  try dsimp only
  go_wp2_with fail
  refine bodyPost_ret (v := .tuple #[.agg #[.int .i64 rm3, .slice a3 n3 c3, .int .i64 lf3, .bool dn3], .int .i64 x3]) ?_ rfl ?_
  · rw [results_cell_tmp rfl]; go_simp
  · exact ret_out (r := (⟨rm3, l3, lf3, dn3⟩, x3)) HB3.out (fun i hi => by have := HSZ2.out; omega) HBD.out HX3.out (by omega) (by have := HSZ2.out; omega) _ _ _ _

set_option maxHeartbeats 4000000 in
theorem write_old (a : Option Addr) (n c : Nat) (d : Dk) (nm more : ByteArray) (w : World) (h : DkAt w a n c d) (hs : nm.size ≤ maxLen) (hs2 : more.size ≤ 9223372036854775807) (r0 : Int) (hr0 : r0 = readyD d [nm]) (hz : r0 = 0) (k0 : Int) (hk0 : k0 = atL d.files nm) (sz : Nat) (hszv : sz = szL d.files) (hright : rightD d = true) (h1 : ¬ k0 < 0) (h3 : (more.size : Int) ≤ d.room - (sz : Int)) :
    Calls Try.prog 21 #[d.val a n c, .string nm, .string more] w (RetDk w (doneD d (wrote d.files nm more) (wrote d.files nm more))) := by
  have hmf : ∀ fn first cap w, (Instr.makeFunc fn first cap).run Try.prog w = .ok (.func fn first cap) w := fun _ _ _ _ => rfl
  have HA := Lib.hid (three_below w d a n c nm more)
  have HB := Lib.hid (three_box w d a n c nm more)
  have HO := Lib.hid (three_out w d a n c nm more)
  have HNM := Lib.hid (three_nm w d a n c nm more)
  have HMO := Lib.hid (three_more w d a n c nm more)
  have HZ := Lib.hid (three_size w d a n c nm more)
  have hsm : more.size ≤ 9223372036854775807 := hs2
  have hr := Lib.hid (ready_one a n c d nm w _ h (three_below w d a n c nm more) hs (w.heap.size + 4) (by rw [three_size]) r0 (Lib.hid hr0))
  have hnb := h.nb
  have hcn := h.cn
  subst hz
  have hf := Lib.hid (fun (W : World) (hb : Below w.heap.size w W) => find_any a n c d.files nm W (h.sl.keep hb) hnb k0 (Lib.hid hk0))
  have hsz := Lib.hid (fun (W : World) (hb : Below w.heap.size w W) => size_any a n c d.files W (h.sl.keep hb) hnb h.small sz (Lib.hid hszv))
  obtain ⟨⟨hr1, hr2⟩, hn8, -⟩ := rightD_nums hright
  have hn8 : n ≤ 8 := by have := h.len; omega
  have hsz8 : (sz : Int) ≤ 1048576 := by have := rightD_size hright; omega
  have hwz : IntKind.i64.wrap (d.room - (sz : Int)) = d.room - (sz : Int) := by rw [IntKind.wrap_i64]; omega
  have b1 : decide (k0 < 0) = false := decide_eq_false h1
  have b3 : decide (d.room - (sz : Int) < (more.size : Int)) = false := decide_eq_false (by omega)
  have H := Lib.hid h
  have hln := h.len
  obtain ⟨r, hre⟩ : ∃ r, r = doneD d (wrote d.files nm more) (wrote d.files nm more) := ⟨_, rfl⟩
  have hrr : rightD (doneD d (wrote d.files nm more) (wrote d.files nm more)).1 = true := by
    have h1 := write_right (d := d) (nm := nm) (more := more)
    unfold writeD at h1
    rw [← hr0, if_neg (by simp), if_neg (by rw [← hk0, ← hszv]; omega)] at h1
    exact h1
  have hdone := Lib.hid (fun (W : World) (Bat Bn Bm : Nat) (hb : Below w.heap.size w W) (o1 : One W Bat 3 (.int .i64 k0)) (o2 : One W Bn 9 (.string nm)) (o3 : One W Bm 9 (.string more)) (n1 : Bat ≠ Bn) (n2 : Bat ≠ Bm) => by
    have hfs : FsFn 34 #[.pointer (some ⟨Bat, 0, none⟩), .pointer (some ⟨Bn, 0, none⟩), .pointer (some ⟨Bm, 0, none⟩)] d.files (wrote d.files nm more) (fun i => i = Bat) W := by
      obtain ⟨j, hj, hj1, hj2, hj3⟩ := atL_lt (l := d.files) (nm := nm) (by rw [← hk0]; omega)
      have hkj : k0 = (j : Int) := hk0.trans hj1
      have hsm2 := (right_small hright d.files[j] (List.getElem_mem hj)).2
      rw [wrote_at (rightD_fs hright).2 hj hj2 hj3]
      rw [hkj] at o1
      have := put_old d.files j Bat Bn Bm nm more (fun i => i = Bat) W hj (by omega) (by unfold maxLen; omega) o1 o3
      rw [hj2] at this
      exact this
    have := done_any a n c d 34 34 #[.pointer (some ⟨Bat, 0, none⟩), .pointer (some ⟨Bn, 0, none⟩), .pointer (some ⟨Bm, 0, none⟩)] #[.pointer (some ⟨Bat, 0, none⟩), .pointer (some ⟨Bn, 0, none⟩), .pointer (some ⟨Bm, 0, none⟩)] _ _ (fun i => i = Bat) W (H.out.keep hb) (by omega) enters_write enters_write hfs hfs (fun i hi => by rw [hi]; exact o1.lt) hrr
    rw [← hre] at this
    exact this)
  rw [← hre]
  clear hrr hre hln H
  clear hr0 hk0 hszv hright h hcn
  unfold threeW at *
  obtain ⟨rm, l, lf, dn⟩ := d
  unfold Dk.val at *
  dsimp only at *
  go_enter Try.func21, Try.ntmps21
  go_wp2_with fail
  refine hr.out.mono ?_
  rintro e w1 ⟨rfl, hb1⟩
  have HB1 := Lib.hid (below_then HA.out hb1 HA.out.size)
  have hB1 := HB.out.keep hb1
  have o1 := Four.keep HO.out hb1
  have n1 := One.below HNM.out hb1
  have m1 := One.below HMO.out hb1
  have q0 := hB1.c0; have q1 := hB1.c1; have q2 := hB1.c2; have q3 := hB1.c3
  have qn := n1.cell
  have qm := m1.cell
  have O1 := Lib.hid o1
  have P1 := Lib.hid hB1
  have N1 := Lib.hid n1
  have M1 := Lib.hid m1
  have hz1 : w.heap.size + 3 < w1.heap.size := by have h1 := hb1.size; rw [HZ.out] at h1; omega
  clear hB1 o1 hb1 n1 m1
  go_wp2_with fail
  refine (hf.out w1 HB1.out).mono ?_
  rintro e w2 ⟨rfl, hb2⟩
  have hb2' := below_then HB1.out hb2 HB1.out.size
  have HB2 := Lib.hid (hb2'.alloc hb2'.size (.cells #[.int .i64 k0] 3))
  have O2 := Lib.hid ((Four.keep O1.out hb2).alloc (.cells #[.int .i64 k0] 3))
  have P2 := Lib.hid ((Four.keep P1.out hb2).alloc (.cells #[.int .i64 k0] 3))
  have N2 := Lib.hid ((One.below N1.out hb2).alloc (.cells #[.int .i64 k0] 3))
  have M2 := Lib.hid ((One.below M1.out hb2).alloc (.cells #[.int .i64 k0] 3))
  have A2 := Lib.hid (One.new w2 3 (.int .i64 k0))
  have hsz2 : w1.heap.size ≤ w2.heap.size := hb2.size
  obtain ⟨A, hA9⟩ : ∃ A, A = w2.heap.size := ⟨_, rfl⟩
  have HA9 := Lib.hid hA9
  clear hb2 q0 q1 q2 q3 qn qm hb2' hA9
  go_wp2_with fail
  have p2 := P2.out
  have E0 := p2.c0; have E1 := p2.c1; have E4 := M2.out.cell; have E5 := A2.out.cell
  have hA2w : w2.heap.size = A := HA9.out.symm
  have HSZ2 : Hid (w.heap.size + 3 < A ∧ A < (w2.alloc (.cells #[.int .i64 k0] 3)).heap.size) := Lib.hid (by simp; omega)
  clear p2
  generalize hW2 : w2.alloc (.cells #[.int .i64 k0] 3) = W2 at *
  rw [hA2w] at *
  clear hW2 hA2w HA9
  have p0 := Bel.cell E0
  have p1 := Bel.cell E1
  have p4 := Bel.cell E4
  have p5 := Bel.cell E5
  have hszc := Lib.hid (fun (p : Bel W2) => hsz.out p.val (below_then HB2.out p.bel HB2.out.size))
  clear E0 E1 E4 E5 hsz
  refine wp_region_bel (by kernel_rfl) (by kernel_rfl) ?_
  repeat (go_big_quiet_step (exact bel_of (hszc.out _)))
  refine wpQuiet_nil ?_
  intro W3 hw'
  obtain ⟨⟨W8, hW3⟩, he⟩ := hw'
  change W3 = W8 at he
  subst he
  clear p0 p1 p4 p5
  have HB3 := Lib.hid (below_then HB2.out hW3 HB2.out.size)
  have O3 := Lib.hid (Four.keep O2.out hW3)
  have p3 := Four.keep P2.out hW3
  have hW3s : W2.heap.size ≤ W3.heap.size := hW3.size
  have HC9 := Lib.hid (hdone.out W3 A (w.heap.size + 1) (w.heap.size + 2) HB3.out (One.below A2.out hW3) (One.below N2.out hW3) (One.below M2.out hW3) (by have := HSZ2.out; omega) (by have := HSZ2.out; omega))
  have q0 := p3.c0; have q1 := p3.c1; have q2 := p3.c2; have q3 := p3.c3
  clear p3 hW3 hdone hszc
  go_wp2_with fail
  refine HC9.out.mono ?_
  rintro e w3 ⟨a3, n3, c3, rfl, hbd, hx3⟩
  obtain ⟨⟨rm3, l3, lf3, dn3⟩, x3⟩ := r
  have o2 := hbd.1.four O3.out (by have := HSZ2.out; omega)
  have HBD := Lib.hid hbd
  have HX3 := Lib.hid hx3
  clear hbd hx3 q0 q1 q2 q3
  have e0 := o2.c0; have e1 := o2.c1; have e2 := o2.c2; have e3 := o2.c3
  have g0 := o2.free 0; have g1 := o2.free 1; have g2 := o2.free 2; have g3 := o2.free 3
  clear o2
  unfold Dk.val
  try dsimp only
  go_wp2_with fail
  refine bodyPost_ret (v := .tuple #[.agg #[.int .i64 rm3, .slice a3 n3 c3, .int .i64 lf3, .bool dn3], .int .i64 x3]) ?_ rfl ?_
  · rw [results_cell_tmp rfl]; go_simp
  · exact ret_out (r := (⟨rm3, l3, lf3, dn3⟩, x3)) HB3.out (fun i hi => by have := HSZ2.out; omega) HBD.out HX3.out (by omega) (by have := HSZ2.out; omega) _ _ _ _

theorem write_any (a : Option Addr) (n c : Nat) (d : Dk) (nm more : ByteArray) (w : World) (h : DkAt w a n c d) (hs : nm.size ≤ maxLen) (hs2 : more.size ≤ 9223372036854775807) :
    Calls Try.prog 21 #[d.val a n c, .string nm, .string more] w (RetDk w (writeD d nm more)) := by
  unfold writeD
  by_cases hz : readyD d [nm] = 0
  · rw [if_neg (by simpa using hz)]
    have hright := (ready_parts hz).1
    by_cases h1 : atL d.files nm < 0
    · by_cases h2 : 8 ≤ d.files.length
      · rw [if_pos (.inl ⟨h1, h2⟩)]
        exact write_full8 a n c d nm more w h hs hs2 _ rfl hz _ rfl _ rfl hright h1 h2
      · by_cases h3 : d.room - (szL d.files : Int) < (more.size : Int)
        · rw [if_pos (.inr h3)]
          exact write_full a n c d nm more w h hs hs2 _ rfl hz _ rfl _ rfl hright h1 h2 h3
        · rw [if_neg (by omega)]
          exact write_new a n c d nm more w h hs hs2 _ rfl hz _ rfl _ rfl hright h1 h2 (by omega)
    · by_cases h3 : d.room - (szL d.files : Int) < (more.size : Int)
      · rw [if_pos (.inr h3)]
        exact write_full2 a n c d nm more w h hs hs2 _ rfl hz _ rfl _ rfl hright h1 h3
      · rw [if_neg (by omega)]
        exact write_old a n c d nm more w h hs hs2 _ rfl hz _ rfl _ rfl hright h1 (by omega)
  · rw [if_pos hz]
    exact write_not a n c d nm more w h hs hs2 _ rfl hz
end Go.Proofs.Ytjppommhamaibaa
